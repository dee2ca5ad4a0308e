/- Lemmas that all proofs of this seat share: how a law that changes no old memory closes its row. Plain arithmetic of numbers of few digits: no program in sight. Plain arithmetic of rows of digits: no program in sight. Plain arithmetic of days: no program in sight. The walks of package logic and of its reference: what each function answers, for every input. The walks of package logic over slices of values. Plain arithmetic of a quotient of a long number, half word by half word. No program in sight. -/
import Derived.Test.YtapilekangmcoaaGreatDoorRows
import Derived.WalkKit
import Derived.WalkSpells
import Derived.ProofKit
import Derived.OpenShut
import Derived.Handy
import Derived.Carry
import Derived.Below
import Derived.Lib.Hide
import Derived.Deep.Slices
import Derived.Deep.Fields
import Derived.ChangeSame
import Derived.JoinedCond
import Derived.Deep.MidRow
import Derived.Deep.RegionHeld3
import Derived.Deep.DrawnRows
import Derived.Deep.Draws
set_option linter.unusedVariables false
set_option linter.unusedSimpArgs false
set_option maxHeartbeats 8000000
set_option maxRecDepth 100000
namespace Go.Proofs.YtapilekangmcoaaGreatDoor
open Go.ChangeShapes Go.WideShapes Go.ChangeAt Go.RowKit Go.Deep
theorem own : ownKnob Tryz.prog.godebug = none := by kernel_rfl
theorem laidOut : laidOutB Tryz.prog = true := by kernel_rfl
section
variable {H : Type} {enc : TypeId × Value → H} {P : Program}
/-- The arguments read behind the call as they read before: nothing old has turned. -/
theorem trodAll_below (hl : laidOutB P = true) {W W' : World} {sp : Nat → Bool} (hb : Below W.heap.size W W') :
   ∀ (ts : List TypeId) (vs : List Value) (ds : List (DataW H)) (ps : List MemPlace), (∀ t ∈ ts, P.readableRec t = true ∧ t < P.types.size) →
     DataW.TrodAll enc P W 0 (fun _ => true) true ts vs ds ps → (∀ x ∈ ps, x.block < W.heap.size) → (∀ x ∈ ps, sp x.block = true) → DataW.TrodAll enc P W' 0 sp true ts vs ds ps
 | [], [], [], _, _, h, _, _ => h
 | t :: ts, v :: vs, d :: ds, ps, ht, h, hlt, hsp => by
   obtain ⟨p, q, h1, h2, rfl⟩ := h
   refine ⟨p, q, ?_, ?_, rfl⟩
   · exact WideElems.Trod_stays hl (ht t (by simp)).1 (ht t (by simp)).2 h1 (fun x hx => hb.same (hlt x (by simp [hx]))) (fun x hx => hsp x (by simp [hx]))
   · exact trodAll_below hl hb ts vs ds q (fun t h => ht t (by simp [h])) h2 (fun x hx => hlt x (by simp [hx])) (fun x hx => hsp x (by simp [hx]))
/-- A LAW's LAST STEP: it answers true, and nothing that was there has turned. -/
theorem law_post {f : Func} {s : ChangeSpec} {W W' : World} {args : Array Value} {ds gs : List (DataW H)} {before : List MemPlace} {tb : TypeId}
   (hl : laidOutB P = true) (hpar : f.params.toList.all (fun t => P.readableRec t && decide (t < P.types.size)) = true) (hr : f.resultTypes = #[tb]) (htb : P.underlying tb = some .bool)
   (hv : s.vars = []) (hfn : s.fn H (ds ++ gs) = { results := [.lit (.bool true)], args := ds })
   (hW : DataW.Whole enc P f.params.toList s.vars false W args.toList ds gs before) (hb : Below W.heap.size W W') :
   s.post enc P f false true false false W args (.bool true) W' := by
 have hlt : ∀ p ∈ before, p.block < W.heap.size := fun p hp => hW.lt p hp
 have hpar' : ∀ t ∈ f.params.toList, P.readableRec t = true ∧ t < P.types.size := fun t ht => by simpa using List.all_eq_true.1 hpar t ht
 have hW2 := hW
 obtain ⟨p, q, hA, hV, rfl, hz, hn⟩ := hW2
 rw [hv] at hV
 obtain ⟨rfl, rfl⟩ := trodVars_none hV
 have hbl : ∀ x ∈ p, x.block < W.heap.size := fun x hx => hlt x (by simp [hx])
 have hold : ∀ x ∈ p, (fun b => decide (b < W.heap.size)) x.block = true := fun x hx => by simpa using hbl x hx
 have hres : (Value.bool true).resultList f.resultTypes.size = [.bool true] := by rw [hr]; rfl
 refine ⟨ds, [], p ++ [], [], p, [], hW, ?_, ?_, ?_, World.keptBut_mono (fun x hx => ⟨hx, Or.inr (by simpa using hx)⟩) (hb.frame (· ∈ p ++ [])), fun h => by cases h⟩
 · rw [hfn, hr]
   exact trodAll_mk1 (shut_bool htb _)
 · rw [hfn]
   exact trodAll_below hl hb _ _ _ _ hpar' hA hbl hold
 · rw [hfn, hv]
   rfl
end
/-- Block g is just the cells cs of element type t, none frozen. -/
def Blk (w : World) (g : Nat) (t : TypeId) (cs : Array Value) : Prop := w.heap[g]? = some (.cells cs t (0, 0))
section
variable {w w' : World} {g : Nat} {t : TypeId} {cs : Array Value}
theorem Blk.lt (h : Blk w g t cs) : g < w.heap.size := by
 rcases Nat.lt_or_ge g w.heap.size with hlt | hge
 · exact hlt
 · unfold Blk at h; rw [Array.getElem?_eq_none hge] at h; cases h
theorem Blk.cell (h : Blk w g t cs) (i : Nat) : w.cell? ⟨g, i, none⟩ = cs[i]? := cell_of_row w g i cs t (0, 0) h
theorem Blk.frozen (h : Blk w g t cs) (i : Nat) : w.frozen? ⟨g, i, none⟩ = false := by
 unfold Blk at h
 simp [World.frozen?, h]
theorem Blk.new (w : World) (t : TypeId) (cs : Array Value) : Blk (w.alloc (.cells cs t)) w.heap.size t cs := heap_alloc_new w _
theorem Blk.new' (w : World) (t : TypeId) (cs : Array Value) {n : Nat} (h : n = w.heap.size) : Blk (w.alloc (.cells cs t)) n t cs := h ▸ heap_alloc_new w _
theorem Blk.drew (h : Blk w g t cs) : Blk w.drew g t cs := h
theorem Blk.drewN (h : Blk w g t cs) (n : Nat) : Blk (w.drewN n) g t cs := h
theorem Blk.alloc (h : Blk w g t cs) (o : Obj) : Blk (w.alloc o) g t cs := (Below.heap_alloc w o g h.lt).trans h
theorem Blk.set_ (h : Blk w g t cs) (i : Nat) (u : Value) : Blk (w.setCell ⟨g, i, none⟩ u) g t (cs.setIfInBounds i u) := by
 unfold Blk at h ⊢
 simp [World.setCell, Array.getElem?_modify, h]
theorem Blk.far (h : Blk w g t cs) {p : Addr} (hp : g ≠ p.block) (u : Value) : Blk (w.setCell p u) g t cs := (Below.heap_setCell w p u g hp).trans h
theorem Blk.below {B : Nat} (h : Blk w g t cs) (hb : Below B w w') (hg : g < B) : Blk w' g t cs := (hb.block g hg).trans h
theorem Blk.step (h : Blk w g t cs) (hb : Below w.heap.size w w') : Blk w' g t cs := h.below hb h.lt
end
/-- Block g alone has turned. -/
structure Turned (w w1 : World) (g : Nat) : Prop where
 os : w1.os = w.os
 tape : w1.tape = w.tape
 output : w1.output = w.output
 size : w1.heap.size = w.heap.size
 block : ∀ k, k ≠ g → w1.heap[k]? = w.heap[k]?
theorem Turned.refl (w : World) (g : Nat) : Turned w w g := ⟨rfl, rfl, rfl, rfl, fun _ _ => rfl⟩
theorem Turned.trans {a b c : World} {g : Nat} (h : Turned a b g) (k : Turned b c g) : Turned a c g :=
 ⟨k.os.trans h.os, k.tape.trans h.tape, k.output.trans h.output, k.size.trans h.size, fun i hi => (k.block i hi).trans (h.block i hi)⟩
theorem Turned.setCell (w : World) (g o : Nat) (u : Value) : Turned w (w.setCell ⟨g, o, none⟩ u) g :=
 ⟨rfl, rfl, rfl, by simp [World.setCell], fun k hk => Below.heap_setCell _ _ _ _ hk⟩
theorem Turned.setCells (g : Nat) : ∀ (vs : List Value) (o : Nat) (w : World), Turned w (w.setCells g o vs) g
 | [], _, w => Turned.refl w g
 | v :: r, o, w => (Turned.setCell w g o v).trans (Turned.setCells g r (o + 1) _)
theorem Blk.turn {w w1 : World} {g k : Nat} {t : TypeId} {cs : Array Value} (h : Blk w k t cs) (ht : Turned w w1 g) (hk : k ≠ g) : Blk w1 k t cs := (ht.block k hk).trans h
theorem bturn {a w w1 : World} {g : Nat} (h : Below a.heap.size a w) (ht : Turned w w1 g) (hg : a.heap.size ≤ g) : Below a.heap.size a w1 :=
 h.trans ⟨ht.os, ht.tape, ht.output, Nat.le_of_eq ht.size.symm, fun k hk => ht.block k (by omega)⟩
theorem Blk.some_setCells {g : Nat} {t : TypeId} : ∀ (vs : List Value) (o : Nat) (w : World) (cs : Array Value), Blk w g t cs → ∃ c2 : Array Value, c2.size = cs.size ∧ Blk (w.setCells g o vs) g t c2
 | [], _, _, cs, h => ⟨cs, rfl, h⟩
 | v :: r, o, w, cs, h => by
   obtain ⟨c2, hs, hb⟩ := Blk.some_setCells r (o + 1) _ _ (h.set_ o v)
   exact ⟨c2, by simpa using hs, hb⟩
theorem Blk.setCells {w : World} {g : Nat} {t : TypeId} {cs cs' : Array Value} (h : Blk w g t cs) (hs : cs'.size = cs.size) : Blk (w.setCells g 0 cs'.toList) g t cs' := by
 obtain ⟨c2, hz, hb⟩ := Blk.some_setCells cs'.toList 0 w cs h
 suffices c2 = cs' by rw [← this]; exact this ▸ hb
 apply Array.ext_getElem?
 intro j
 by_cases hj : j < cs'.size
 · have h1 := World.cell?_setCells_in g cs'.toList 0 w (fun i hi => by
     rw [Nat.zero_add, h.cell i, Array.getElem?_eq_getElem (by simp at hi; omega)]; rfl) j (by simpa using hj)
   rw [Nat.zero_add, hb.cell j] at h1
   rw [h1]
   simp [hj]
 · rw [Array.getElem?_eq_none (by omega), Array.getElem?_eq_none (by omega)]
theorem wpList_store_blk {P : Program} {w w0 : World} {g : Nat} {T : TypeId} {cs : Array Value} (_hb : Blk w0 g T cs) {ops : Array Oper} {rest : List Oper} {o : Oper} {a : Act} {Q : Exit → Act → World → Prop} (hgd : o.guard = none) (ty : TypeId) (x y : Operand) (ho : o.op = .store ty x y)
   (cs' : Array Value) (hx : a.eval x = .pointer (some ⟨g, 0, none⟩)) (hy : a.eval y = .agg cs') (hB : Blk w g T cs) (hs : cs'.size = cs.size)
   (hi : (P.info? ty).map (·.size) = some cs'.size) (h1 : cs'.all (·.oneCell') = true)
   (h : ∀ w1, Blk w1 g T cs' → Turned w w1 g → wpList P ops Q rest (a.put o.dst undef) w1) : wpList P ops Q (o :: rest) a w :=
 wpList_store_mid hgd ty x y ho g 0 cs' hx hy (fun j hj => by
   rw [Nat.zero_add]
   exact ⟨by rw [hB.cell j, Array.getElem?_eq_getElem (by omega)]; rfl, hB.frozen j⟩) hi h1 (h _ (hB.setCells hs) (Turned.setCells g _ _ _))
theorem Blk.rangeAt {w : World} {g : Nat} {t : TypeId} {cs : Array Value} (h : Blk w g t cs) : w.rangeAt g 0 cs.toList := fun j v hv => by
 rw [Nat.zero_add, h.cell j]
 simpa using hv
theorem wpList_load_blk {P : Program} {w w0 : World} {g : Nat} {T : TypeId} {cs : Array Value} (_hb : Blk w0 g T cs) {ops : Array Oper} {rest : List Oper} {o : Oper} {a : Act} {Q : Exit → Act → World → Prop} (hgd : o.guard = none) (ty : TypeId) (x : Operand) (ho : o.op = .load ty x)
   (hx : a.eval x = .pointer (some ⟨g, 0, none⟩)) (hB : Blk w g T cs) (d : TypeDesc)
   (hu : P.underlying ty = some d) (hd : d.isRow = true) (hi : (P.info? ty).map (·.size) = some cs.size)
   (h : wpList P ops Q rest (a.put o.dst (.agg cs)) w) : wpList P ops Q (o :: rest) a w :=
 wpList_load_mid hgd ty x ho g 0 hx cs.toList d hB.rangeAt hu hd (by simpa using hi) (by simpa using h)
/-- A struct result, read out of its known block. -/
theorem ret_blk {P : Program} {fn : Func} {R : Ending → World → Prop} {a : Act} {w : World} {p : Tmp} {ty : TypeId} {g : Nat} {T : TypeId} {cs : Array Value} {d : TypeDesc} (h : fn.results = #[.cell p ty]) (hB : Blk w g T cs)
   (hp : a.tmps.getD p undef = .pointer (some ⟨g, 0, none⟩)) (hu : P.underlying ty = some d) (hd : (match d with | .struct _ | .array _ _ => true | _ => false) = true) (hi : (P.info? ty).map (·.size) = some cs.size)
   (hdf : a.defers = []) (hR : R (.returned (.agg cs)) w) : bodyPost P fn R .ret a w :=
 bodyPost_ret (results_cell_row h a.tmps w g T cs (0, 0) d hp hB hu hd hi) hdf hR
theorem ret_blk2 {P : Program} {fn : Func} {R : Ending → World → Prop} {a : Act} {w : World} {p u : Tmp} {ty : TypeId} {g : Nat} {T : TypeId} {cs : Array Value} {d : TypeDesc} (h : fn.results = #[.cell p ty, .tmp u]) (hB : Blk w g T cs)
   (hp : a.tmps.getD p undef = .pointer (some ⟨g, 0, none⟩)) (hu : P.underlying ty = some d) (hd : (match d with | .struct _ | .array _ _ => true | _ => false) = true) (hi : (P.info? ty).map (·.size) = some cs.size)
   (hdf : a.defers = []) (hR : R (.returned (.tuple #[.agg cs, a.tmps.getD u undef])) w) : bodyPost P fn R .ret a w := by
 refine bodyPost_ret ?_ hdf hR
 rw [results_cell_tmp h, hp]
 simp [asAddr, run_loadVar_row w g T ty cs (0, 0) d hB hu hd hi, Result.andThen]
/-- Side conditions of the walk: an older block lies below a world's size however many blocks are laid. -/
theorem lts {a b : Nat} (h : a < b) : a ≤ b ∧ a ≤ b + 1 ∧ a ≤ b + 1 + 1 ∧ a ≤ b + 1 + 1 + 1 ∧ a ≤ b + 1 + 1 + 1 + 1 ∧ a ≤ b + 1 + 1 + 1 + 1 + 1 ∧ a ≤ b + 1 + 1 + 1 + 1 + 1 + 1 ∧ a < b + 1 ∧ a < b + 1 + 1 ∧ a < b + 1 + 1 + 1 ∧ a < b + 1 + 1 + 1 + 1 ∧ a < b + 1 + 1 + 1 + 1 + 1 ∧ a < b + 1 + 1 + 1 + 1 + 1 + 1 := by omega
theorem bf5 {w : World} {g : Nat} {t : TypeId} {a0 a1 a2 a3 a4 : Value} (h : Blk w g t #[a0, a1, a2, a3, a4]) : g < w.heap.size ∧ (g ≤ w.heap.size ∧ g ≤ w.heap.size + 1 ∧ g ≤ w.heap.size + 1 + 1 ∧ g ≤ w.heap.size + 1 + 1 + 1 ∧ g ≤ w.heap.size + 1 + 1 + 1 + 1 ∧ g ≤ w.heap.size + 1 + 1 + 1 + 1 + 1 ∧ g ≤ w.heap.size + 1 + 1 + 1 + 1 + 1 + 1 ∧ g < w.heap.size + 1 ∧ g < w.heap.size + 1 + 1 ∧ g < w.heap.size + 1 + 1 + 1 ∧ g < w.heap.size + 1 + 1 + 1 + 1 ∧ g < w.heap.size + 1 + 1 + 1 + 1 + 1 ∧ g < w.heap.size + 1 + 1 + 1 + 1 + 1 + 1) ∧ w.cell? ⟨g, 0, none⟩ = some a0 ∧ w.cell? ⟨g, 1, none⟩ = some a1 ∧ w.cell? ⟨g, 2, none⟩ = some a2 ∧ w.cell? ⟨g, 3, none⟩ = some a3 ∧ w.cell? ⟨g, 4, none⟩ = some a4 ∧ w.frozen? ⟨g, 0, none⟩ = false ∧ w.frozen? ⟨g, 1, none⟩ = false ∧ w.frozen? ⟨g, 2, none⟩ = false ∧ w.frozen? ⟨g, 3, none⟩ = false ∧ w.frozen? ⟨g, 4, none⟩ = false :=
 ⟨h.lt, lts h.lt, h.cell 0, h.cell 1, h.cell 2, h.cell 3, h.cell 4, h.frozen 0, h.frozen 1, h.frozen 2, h.frozen 3, h.frozen 4⟩
theorem bf6 {w : World} {g : Nat} {t : TypeId} {a0 a1 a2 a3 a4 a5 : Value} (h : Blk w g t #[a0, a1, a2, a3, a4, a5]) : g < w.heap.size ∧ (g ≤ w.heap.size ∧ g ≤ w.heap.size + 1 ∧ g ≤ w.heap.size + 1 + 1 ∧ g ≤ w.heap.size + 1 + 1 + 1 ∧ g ≤ w.heap.size + 1 + 1 + 1 + 1 ∧ g ≤ w.heap.size + 1 + 1 + 1 + 1 + 1 ∧ g ≤ w.heap.size + 1 + 1 + 1 + 1 + 1 + 1 ∧ g < w.heap.size + 1 ∧ g < w.heap.size + 1 + 1 ∧ g < w.heap.size + 1 + 1 + 1 ∧ g < w.heap.size + 1 + 1 + 1 + 1 ∧ g < w.heap.size + 1 + 1 + 1 + 1 + 1 ∧ g < w.heap.size + 1 + 1 + 1 + 1 + 1 + 1) ∧ w.cell? ⟨g, 0, none⟩ = some a0 ∧ w.cell? ⟨g, 1, none⟩ = some a1 ∧ w.cell? ⟨g, 2, none⟩ = some a2 ∧ w.cell? ⟨g, 3, none⟩ = some a3 ∧ w.cell? ⟨g, 4, none⟩ = some a4 ∧ w.cell? ⟨g, 5, none⟩ = some a5 ∧ w.frozen? ⟨g, 0, none⟩ = false ∧ w.frozen? ⟨g, 1, none⟩ = false ∧ w.frozen? ⟨g, 2, none⟩ = false ∧ w.frozen? ⟨g, 3, none⟩ = false ∧ w.frozen? ⟨g, 4, none⟩ = false ∧ w.frozen? ⟨g, 5, none⟩ = false :=
 ⟨h.lt, lts h.lt, h.cell 0, h.cell 1, h.cell 2, h.cell 3, h.cell 4, h.cell 5, h.frozen 0, h.frozen 1, h.frozen 2, h.frozen 3, h.frozen 4, h.frozen 5⟩
theorem bf8 {w : World} {g : Nat} {t : TypeId} {a0 a1 a2 a3 a4 a5 a6 a7 : Value} (h : Blk w g t #[a0, a1, a2, a3, a4, a5, a6, a7]) : g < w.heap.size ∧ (g ≤ w.heap.size ∧ g ≤ w.heap.size + 1 ∧ g ≤ w.heap.size + 1 + 1 ∧ g ≤ w.heap.size + 1 + 1 + 1 ∧ g ≤ w.heap.size + 1 + 1 + 1 + 1 ∧ g ≤ w.heap.size + 1 + 1 + 1 + 1 + 1 ∧ g ≤ w.heap.size + 1 + 1 + 1 + 1 + 1 + 1 ∧ g < w.heap.size + 1 ∧ g < w.heap.size + 1 + 1 ∧ g < w.heap.size + 1 + 1 + 1 ∧ g < w.heap.size + 1 + 1 + 1 + 1 ∧ g < w.heap.size + 1 + 1 + 1 + 1 + 1 ∧ g < w.heap.size + 1 + 1 + 1 + 1 + 1 + 1) ∧ w.cell? ⟨g, 0, none⟩ = some a0 ∧ w.cell? ⟨g, 1, none⟩ = some a1 ∧ w.cell? ⟨g, 2, none⟩ = some a2 ∧ w.cell? ⟨g, 3, none⟩ = some a3 ∧ w.cell? ⟨g, 4, none⟩ = some a4 ∧ w.cell? ⟨g, 5, none⟩ = some a5 ∧ w.cell? ⟨g, 6, none⟩ = some a6 ∧ w.cell? ⟨g, 7, none⟩ = some a7 ∧ w.frozen? ⟨g, 0, none⟩ = false ∧ w.frozen? ⟨g, 1, none⟩ = false ∧ w.frozen? ⟨g, 2, none⟩ = false ∧ w.frozen? ⟨g, 3, none⟩ = false ∧ w.frozen? ⟨g, 4, none⟩ = false ∧ w.frozen? ⟨g, 5, none⟩ = false ∧ w.frozen? ⟨g, 6, none⟩ = false ∧ w.frozen? ⟨g, 7, none⟩ = false :=
 ⟨h.lt, lts h.lt, h.cell 0, h.cell 1, h.cell 2, h.cell 3, h.cell 4, h.cell 5, h.cell 6, h.cell 7, h.frozen 0, h.frozen 1, h.frozen 2, h.frozen 3, h.frozen 4, h.frozen 5, h.frozen 6, h.frozen 7⟩
theorem keep1 {W w' : World} (hb : Below W.heap.size W w') {a : Addr} {v : Value} (h : W.cell? a = some v) : w'.cell? a = some v := (hb.cell (block_lt_of_cell h)).trans h
theorem keepd {w : World} {a : Addr} {v : Value} (h : w.cell? a = some v) : w.drew.cell? a = some v := h
theorem keepa2 {w : World} {a : Addr} {v : Value} {o : Obj} (h : w.cell? a = some v) : (w.alloc o).cell? a = some v := keep1 (W := w) (w' := w.alloc o) ((Below.refl _ _).alloc (Nat.le_refl _) o) h
theorem bcell {W w1 : World} (hb : Below W.heap.size W w1) : (∀ b o, b < W.heap.size → w1.cell? ⟨b, o, none⟩ = W.cell? ⟨b, o, none⟩) ∧ (∀ b o, b < W.heap.size → w1.frozen? ⟨b, o, none⟩ = W.frozen? ⟨b, o, none⟩) :=
 ⟨fun b o h => hb.cell (p := ⟨b, o, none⟩) h, fun b o h => hb.frozen (p := ⟨b, o, none⟩) h⟩
theorem bstep {a b c : World} (h : Below a.heap.size a b) (hb : Below b.heap.size b c) : Below a.heap.size a c := h.trans (hb.mono h.size)
theorem balloc {a b : World} (h : Below a.heap.size a b) (o : Obj) : Below a.heap.size a (b.alloc o) := h.alloc h.size o
theorem bset {a b : World} (h : Below a.heap.size a b) {p : Addr} (hp : a.heap.size ≤ p.block) (u : Value) : Below a.heap.size a (b.setCell p u) := h.setCell hp u
theorem bdrewN {a b : World} (h : Below a.heap.size a b) (n : Nat) : Below a.heap.size a (b.drewN n) := ⟨h.os, h.tape, h.output, h.size, h.block⟩
end Go.Proofs.YtapilekangmcoaaGreatDoor
namespace Go.Proofs.YtapilekangmcoaaGreatDoor
def p10 (n : Nat) : Int := ((10 ^ n : Nat) : Int)
theorem p10_zero : p10 0 = 1 := rfl
theorem p10_succ (n : Nat) : p10 (n + 1) = p10 n * 10 := by unfold p10; rw [Nat.pow_succ]; omega
theorem p10_pos (n : Nat) : 0 < p10 n := by unfold p10; exact Int.natCast_pos.2 (Nat.pos_of_ne_zero (by simp))
theorem p10_mono {a b : Nat} (h : a ≤ b) : p10 a ≤ p10 b := by unfold p10; exact Int.ofNat_le.2 (Nat.pow_le_pow_right (by omega) h)
theorem p10_12 : p10 12 = 1000000000000 := by decide
theorem p10_6 : p10 6 = 1000000 := by decide
/-- The shortest form of n over ten to the power s, n from 0 on. -/
def short : Nat → Int → Int × Int
 | 0, n => (n, 0)
 | k + 1, n => if n % 10 = 0 then short k (n / 10) else (n, k + 1)
theorem short_stop {k : Nat} {n : Int} (h : k = 0 ∨ ¬ n % 10 = 0) : short k n = (n, (k : Int)) := by
 cases k with
 | zero => rfl
 | succ k => rw [short, if_neg (by rcases h with h | h; · omega
                                   · exact h)]; rfl
theorem short_go {k : Nat} {n : Int} (h : n % 10 = 0) : short (k + 1) n = short k (n / 10) := by rw [short, if_pos h]
theorem short_bd : ∀ (k : Nat) (n : Int), 0 ≤ n → 0 ≤ (short k n).1 ∧ (short k n).1 ≤ n ∧ 0 ≤ (short k n).2 ∧ (short k n).2 ≤ k
 | 0, n, h => by simp only [short]; omega
 | k + 1, n, h => by
   rw [short]
   split
   · have := short_bd k (n / 10) (by omega); omega
   · simp only; omega
def big : Int := 999999999999
theorem big_def : big = 999999999999 := rfl
/-- A number (N, Scale) beside an error's number. -/
structure Res where
 n : Int
 s : Int
 e : Int
/-- n over ten to the power k, with a sign, as a number. -/
def decS (k : Nat) (n : Int) (minus : Bool) : Res :=
 if big < (short k n).1 then ⟨0, 0, 3⟩ else ⟨if minus then -(short k n).1 else (short k n).1, (short k n).2, 0⟩
def mag (n : Int) : Int := if n < 0 then -n else n
theorem mag_nn (n : Int) : 0 ≤ mag n := by unfold mag; split <;> omega
def makeS (n s : Int) : Res := if s < 0 ∨ 6 < s ∨ big < n ∨ n < -big then ⟨0, 0, 3⟩ else decS s.toNat (mag n) (decide (n < 0))
/-- Is (n, s) a number in its shortest form? -/
def soundB (n s : Int) : Bool := decide (0 ≤ s ∧ s ≤ 6 ∧ -big ≤ n ∧ n ≤ big ∧ (s = 0 ∨ ¬ n % 10 = 0))
end Go.Proofs.YtapilekangmcoaaGreatDoor
namespace Go.Proofs.YtapilekangmcoaaGreatDoor
/-- The digit of X at place j, the lowest first. -/
def dig (X j : Nat) : Nat := X / 10 ^ j % 10
theorem dig_lt (X j : Nat) : dig X j < 10 := Nat.mod_lt _ (by decide)
theorem t10 (i : Nat) : 0 < 10 ^ i := Nat.pow_pos (by decide)
theorem dig_div (X k j : Nat) : dig (X / 10 ^ k) j = dig X (j + k) := by
 unfold dig; rw [Nat.div_div_eq_div_mul, ← Nat.pow_add, Nat.add_comm]
theorem div_succ (X i : Nat) : X / 10 ^ (i + 1) = X / 10 ^ i / 10 := by rw [Nat.pow_succ, Nat.div_div_eq_div_mul]
theorem dig_mod_lt {X i j : Nat} (h : j < i) : dig (X % 10 ^ i) j = dig X j := by
 unfold dig
 obtain ⟨k, rfl⟩ : ∃ k, i = j + (k + 1) := ⟨i - j - 1, by omega⟩
 rw [Nat.pow_add, Nat.mod_mul_right_div_self, Nat.pow_succ, Nat.mod_mod_of_dvd _ (Nat.dvd_mul_left 10 _)]
theorem dig_mod_ge {X i j : Nat} (h : i ≤ j) : dig (X % 10 ^ i) j = 0 := by
 unfold dig
 have h1 : X % 10 ^ i < 10 ^ i := Nat.mod_lt _ (t10 i)
 have h2 : 10 ^ i ≤ 10 ^ j := Nat.pow_le_pow_right (by decide) h
 rw [Nat.div_eq_of_lt (by omega)]
theorem dig_mul_ge {X k j : Nat} (h : k ≤ j) : dig (X * 10 ^ k) j = dig X (j - k) := by
 unfold dig
 obtain ⟨m, rfl⟩ : ∃ m, j = m + k := ⟨j - k, by omega⟩
 rw [Nat.add_sub_cancel, Nat.pow_add, Nat.mul_div_mul_right _ _ (t10 k)]
theorem dig_mul_lt {X k j : Nat} (h : j < k) : dig (X * 10 ^ k) j = 0 := by
 unfold dig
 obtain ⟨m, rfl⟩ : ∃ m, k = m + 1 + j := ⟨k - j - 1, by omega⟩
 rw [Nat.pow_add, ← Nat.mul_assoc, Nat.mul_div_cancel _ (t10 j), Nat.pow_succ, ← Nat.mul_assoc, Nat.mul_mod_left]
theorem dig_zero (j : Nat) : dig 0 j = 0 := by unfold dig; simp
/-- Cells that hold the digits of X, so many. -/
def rowA (X n : Nat) : Array Value := ((List.range n).map fun j => Value.int .i64 (dig X j)).toArray
theorem rowA_size (X n : Nat) : (rowA X n).size = n := by simp [rowA]
theorem rowA_get (X : Nat) {n j : Nat} (h : j < n) : (rowA X n)[j]? = some (.int .i64 (dig X j)) := by simp [rowA, h]
theorem rowA_set {X Y n i : Nat} {v : Int} (h1 : i < n → (dig Y i : Int) = v) (h2 : ∀ j, j < n → j ≠ i → dig Y j = dig X j) : (rowA X n).setIfInBounds i (.int .i64 v) = rowA Y n := by
 apply Array.ext_getElem?
 intro j
 rw [Array.getElem?_setIfInBounds]
 by_cases hj : j < n
 · rw [rowA_get _ hj, rowA_get _ hj]
   by_cases e : i = j
   · subst e
     rw [if_pos rfl, if_pos (by rw [rowA_size]; exact hj), h1 hj]
   · rw [if_neg e, h2 j hj (fun h => e h.symm)]
 · rw [Array.getElem?_eq_none (by rw [rowA_size]; omega), Array.getElem?_eq_none (by rw [rowA_size]; omega)]
   by_cases e : i = j
   · subst e
     rw [if_pos rfl, if_neg (by rw [rowA_size]; exact hj)]
   · rw [if_neg e]
/-- The next digit of a sum, a difference, laid from below. -/
theorem rowA_up {X n i : Nat} {v : Int} (h : (dig X i : Int) = v) : (rowA (X % 10 ^ i) n).setIfInBounds i (.int .i64 v) = rowA (X % 10 ^ (i + 1)) n := by
 refine rowA_set (fun _ => by rw [dig_mod_lt (by omega)]; exact h) fun j _ hne => ?_
 by_cases hj : j < i
 · rw [dig_mod_lt (by omega), dig_mod_lt hj]
 · rw [dig_mod_ge (by omega), dig_mod_ge (by omega)]
/-- The next digit of a row that lies k places higher. -/
theorem rowA_high {X n i k : Nat} {v : Int} (h : (dig X i : Int) = v) : (rowA (X % 10 ^ i * 10 ^ k) n).setIfInBounds (i + k) (.int .i64 v) = rowA (X % 10 ^ (i + 1) * 10 ^ k) n := by
 refine rowA_set (fun _ => by rw [dig_mul_ge (by omega), Nat.add_sub_cancel, dig_mod_lt (by omega)]; exact h) fun j _ hne => ?_
 by_cases hj : j < k
 · rw [dig_mul_lt hj, dig_mul_lt hj]
 · rw [dig_mul_ge (by omega), dig_mul_ge (by omega)]
   by_cases hi : j - k < i
   · rw [dig_mod_lt hi, dig_mod_lt (by omega)]
   · rw [dig_mod_ge (by omega), dig_mod_ge (by omega)]
theorem less_step {a b i : Nat} (h : a / 10 ^ (i + 1) = b / 10 ^ (i + 1)) (hd : ¬ dig a i = dig b i) : (dig a i < dig b i) = (a < b) := by
 have ha : a / 10 ^ i = a / 10 ^ (i + 1) * 10 + dig a i := by rw [div_succ]; unfold dig; omega
 have hb : b / 10 ^ i = b / 10 ^ (i + 1) * 10 + dig b i := by rw [div_succ]; unfold dig; omega
 apply propext
 constructor
 · intro hlt
   have : a / 10 ^ i < b / 10 ^ i := by omega
   apply Nat.lt_of_not_le
   intro hle
   have := Nat.div_le_div_right (c := 10 ^ i) hle
   omega
 · intro hlt
   have := Nat.div_le_div_right (c := 10 ^ i) (Nat.le_of_lt hlt)
   omega
theorem less_same {a b i : Nat} (h : a / 10 ^ (i + 1) = b / 10 ^ (i + 1)) (hd : dig a i = dig b i) : a / 10 ^ i = b / 10 ^ i := by
 have ha : a / 10 ^ i = a / 10 ^ (i + 1) * 10 + dig a i := by rw [div_succ]; unfold dig; omega
 have hb : b / 10 ^ i = b / 10 ^ (i + 1) * 10 + dig b i := by rw [div_succ]; unfold dig; omega
 omega
end Go.Proofs.YtapilekangmcoaaGreatDoor
namespace Go.Proofs.YtapilekangmcoaaGreatDoor.Days
/-- Whole years that are longer. -/
def leapB (y : Int) : Bool := decide (y % 4 = 0 ∧ (¬ y % 100 = 0 ∨ y % 400 = 0))
def lenS (y m : Int) : Int := if m = 2 then (if leapB y = true then 29 else 28) else if m = 4 ∨ m = 6 ∨ m = 9 ∨ m = 11 then 30 else 31
def firstS (y : Int) : Int := 365 * (y - 1) + (y - 1) / 4 - (y - 1) / 100 + (y - 1) / 400
def yearS (y : Int) : Int := if leapB y = true then 366 else 365
/-- The days of the first months. -/
def cumS (y : Int) : Nat → Int
 | 0 => 0
 | m + 1 => cumS y m + lenS y (m + 1)
theorem leap_iff (y : Int) : leapB y = true ↔ y % 4 = 0 ∧ (¬ y % 100 = 0 ∨ y % 400 = 0) := decide_eq_true_iff
theorem len_bd (y m : Int) : 28 ≤ lenS y m ∧ lenS y m ≤ 31 := by
 unfold lenS
 split
 · split <;> omega
 · split <;> omega
theorem first_succ (y : Int) : firstS (y + 1) = firstS y + yearS y := by
 unfold firstS yearS
 by_cases h : leapB y = true
 · rw [if_pos h]; rw [leap_iff] at h; omega
 · rw [if_neg h]; rw [leap_iff] at h; omega
theorem cum_12 (y : Int) : cumS y 12 = yearS y := by
 unfold yearS
 by_cases h : leapB y = true
 · simp [cumS, lenS, h]
 · simp [cumS, lenS, h]
theorem cum_succ (y : Int) (m : Nat) : cumS y (m + 1) = cumS y m + lenS y (m + 1) := rfl
theorem cum_mono (y : Int) {a b : Nat} (h : a ≤ b) : cumS y a ≤ cumS y b := by
 induction h with
 | refl => exact Int.le_refl _
 | @step m _ ih => rw [cum_succ]; have := len_bd y (m + 1); omega
theorem cum_bd (y : Int) (m : Nat) : 0 ≤ cumS y m ∧ cumS y m ≤ 31 * m := by
 induction m with
 | zero => simp [cumS]
 | succ k ih => rw [cum_succ]; have := len_bd y (k + 1); omega
theorem first_mono {a b : Int} (h : a ≤ b) : firstS a ≤ firstS b := by unfold firstS; omega
theorem first_1 : firstS 1 = 0 := by decide
theorem first_10000 : firstS 10000 = 3652059 := by decide
theorem first_ge {y : Int} (h : 1 ≤ y) : 365 * (y - 1) ≤ firstS y := by unfold firstS; omega
theorem first_le {y : Int} (h : 1 ≤ y) : firstS y ≤ 366 * (y - 1) := by unfold firstS; omega
/-- A date. -/
def okD (y m d : Int) : Prop := 1 ≤ y ∧ y ≤ 9999 ∧ 1 ≤ m ∧ m ≤ 12 ∧ 1 ≤ d ∧ d ≤ lenS y m
instance (y m d : Int) : Decidable (okD y m d) := by unfold okD; exact inferInstance
def dayN (y m d : Int) : Int := firstS y + cumS y (m - 1).toNat + (d - 1)
theorem year_of (n : Int) (h0 : 0 ≤ n) : ∀ k : Nat, n < firstS (k + 1) → ∃ y : Int, 1 ≤ y ∧ y ≤ k ∧ firstS y ≤ n ∧ n < firstS (y + 1)
 | 0, h => by have h1 : firstS ((0 : Nat) + 1 : Int) = 0 := first_1; omega
 | k + 1, h => by
   by_cases hk : firstS (k + 1) ≤ n
   · exact ⟨k + 1, by omega, by omega, hk, by simpa using h⟩
   · obtain ⟨y, a, b, c, d⟩ := year_of n h0 k (by omega)
     exact ⟨y, a, by omega, c, d⟩
theorem month_of (y n : Int) (h0 : 0 ≤ n) : ∀ k : Nat, n < cumS y k → ∃ m : Nat, m < k ∧ cumS y m ≤ n ∧ n < cumS y (m + 1)
 | 0, h => by simp only [cumS] at h; omega
 | k + 1, h => by
   by_cases hk : cumS y k ≤ n
   · exact ⟨k, by omega, hk, h⟩
   · obtain ⟨m, a, b, c⟩ := month_of y n h0 k (by omega)
     exact ⟨m, by omega, b, c⟩
/-- Every day in bounds has a date: year, month less one, and how the day lies in it. -/
theorem date_of (n : Int) (h0 : 0 ≤ n) (h1 : n ≤ 3652058) : ∃ (y : Int) (m : Nat), 1 ≤ y ∧ y ≤ 9999 ∧ m < 12 ∧ firstS y + cumS y m ≤ n ∧ n < firstS y + cumS y (m + 1) ∧ firstS y ≤ n ∧ n < firstS (y + 1) := by
 obtain ⟨y, a, b, c, d⟩ := year_of n h0 9999 (by have := first_10000; show n < firstS ((9999 : Nat) + 1 : Int); simp; omega)
 have hy := first_succ y
 obtain ⟨m, e, f, g⟩ := month_of y (n - firstS y) (by omega) 12 (by rw [cum_12]; omega)
 exact ⟨y, m, a, by omega, e, by omega, by omega, c, d⟩
end Go.Proofs.YtapilekangmcoaaGreatDoor.Days
namespace Go.Proofs.YtapilekangmcoaaGreatDoor.Logic
open Go.RowKit
/-- A value (api.Value) as its five parts. -/
structure Val where
 k : Int
 n : Int
 s : Int
 t : ByteArray
 m : Int
def Val.v (v : Val) : Value := .agg #[.int .i64 v.k, .int .i64 v.n, .int .i64 v.s, .string v.t, .int .i64 v.m]
/-- Are two values one? -/
def veq (a b : Val) : Bool := a.k == b.k && (a.n == b.n && (a.s == b.s && (a.t.toList == b.t.toList && a.m == b.m)))
theorem run_val_eql (w : World) (a b c : Int) (d : ByteArray) (f a' b' c' : Int) (d' : ByteArray) (f' : Int) :
   (binOp .eql 25 (.agg #[.int .i64 a, .int .i64 b, .int .i64 c, .string d, .int .i64 f]) (.agg #[.int .i64 a', .int .i64 b', .int .i64 c', .string d', .int .i64 f'])).run Tryz.prog w
     = .ok (.bool (veq ⟨a, b, c, d, f⟩ ⟨a', b', c', d', f'⟩)) w := by
 go_simp
 unfold veq
 by_cases h1 : a = a' <;> by_cases h2 : b = b' <;> by_cases h3 : c = c' <;> by_cases h4 : d.toList = d'.toList <;> by_cases h5 : f = f' <;> simp [h1, h2, h3, h4, h5]
theorem run_val_neq (w : World) (a b c : Int) (d : ByteArray) (f a' b' c' : Int) (d' : ByteArray) (f' : Int) :
   (binOp .neq 25 (.agg #[.int .i64 a, .int .i64 b, .int .i64 c, .string d, .int .i64 f]) (.agg #[.int .i64 a', .int .i64 b', .int .i64 c', .string d', .int .i64 f'])).run Tryz.prog w
     = .ok (.bool (!veq ⟨a, b, c, d, f⟩ ⟨a', b', c', d', f'⟩)) w := by
 go_simp
 unfold veq
 by_cases h1 : a = a' <;> by_cases h2 : b = b' <;> by_cases h3 : c = c' <;> by_cases h4 : d.toList = d'.toList <;> by_cases h5 : f = f' <;> simp [h1, h2, h3, h4, h5]
attribute [local go_sem high] run_val_eql run_val_neq
def bit (b : Bool) : Int := if b then 1 else 0
def tv (b : Bool) : Val := ⟨3, 0, 0, ⟨#[]⟩, bit b⟩
def nul : Val := ⟨0, 0, 0, ⟨#[]⟩, 0⟩
theorem truth_any (b : Bool) (w : World) : Calls Tryz.prog 41 #[.bool b] w fun e w' => e = .returned (.agg #[.int .i64 3, .int .i64 0, .int .i64 0, .string ⟨#[]⟩, .int .i64 (bit b)]) ∧
   ∃ c1 c2 : Array Value, w' = (w.alloc (.cells c1 25)).alloc (.cells c2 25) := by
 cases b <;> go_enter Tryz.func41, Tryz.ntmps41
 all_goals (go_wp2; go_returns; exact ⟨rfl, _, _, rfl⟩)
theorem rtruth_any (b : Bool) (w : World) : Calls Tryz.prog 21 #[.bool b] w fun e w' => e = .returned (.agg #[.int .i64 3, .int .i64 0, .int .i64 0, .string ⟨#[]⟩, .int .i64 (bit b)]) ∧
   ∃ c1 : Array Value, w' = w.alloc (.cells c1 25) := by
 cases b <;> go_enter Tryz.func21, Tryz.ntmps21
 all_goals (go_wp2; go_returns; exact ⟨rfl, _, rfl⟩)
theorem is_any (a : Val) (w : World) : Calls Tryz.prog 58 #[.agg #[.int .i64 a.k, .int .i64 a.n, .int .i64 a.s, .string a.t, .int .i64 a.m]] w fun e w' => e = .returned (.bool (veq a (tv true))) ∧ Below w.heap.size w w' := by
 go_enter Tryz.func58, Tryz.ntmps58
 go_wp2_with fail
 go_region_held3 (fun w' => w'.cell? ⟨w.heap.size, 0, none⟩ = some (.int .i64 a.k) ∧ w'.cell? ⟨w.heap.size, 1, none⟩ = some (.int .i64 a.n) ∧ w'.cell? ⟨w.heap.size, 2, none⟩ = some (.int .i64 a.s) ∧ w'.cell? ⟨w.heap.size, 3, none⟩ = some (.string a.t) ∧ w'.cell? ⟨w.heap.size, 4, none⟩ = some (.int .i64 a.m)) ((first | (simp [*, World.cell?_alloc_some, World.cell?_setCell_far]; done) | (go_split_ands; (repeat' apply And.intro) <;> first | assumption | exact keep1 (by assumption) (by assumption) | (simp [go_sem]; done) | (repeat (first | (with_reducible assumption) | (with_reducible refine keepd ?_) | (with_reducible refine keepa2 ?_))))))
   ((go_at_call 41; refine (truth_any _ _).mono ?_; rintro e w' ⟨rfl, c1, c2, rfl⟩))
 go_wp2
 go_returns
 exact ⟨rfl, by (repeat' first | (with_reducible first | exact .refl _ _ | assumption | apply balloc | apply Below.drew | apply bset | refine bstep ?_ ‹_› | refine bturn ?_ ‹_› ?_) | go_size)⟩
def notS (a : Val) : Val := if veq a (tv true) then tv false else if veq a (tv false) then tv true else nul
theorem not_any (a : Val) (w : World) : Calls Tryz.prog 60 #[.agg #[.int .i64 a.k, .int .i64 a.n, .int .i64 a.s, .string a.t, .int .i64 a.m]] w fun e w' => e = .returned (notS a).v ∧ Below w.heap.size w w' := by
 go_enter Tryz.func60, Tryz.ntmps60
 go_wp2_with (go_at_call 41; refine (truth_any _ _).mono ?_; rintro e w' ⟨rfl, c1, c2, rfl⟩)
 all_goals go_returns
 all_goals exact ⟨by simp_all [notS, tv, nul, Val.v, bit], by (repeat' first | (with_reducible first | exact .refl _ _ | assumption | apply balloc | apply Below.drew | apply bset | refine bstep ?_ ‹_› | refine bturn ?_ ‹_› ?_) | go_size)⟩
end Go.Proofs.YtapilekangmcoaaGreatDoor.Logic
namespace Go.Proofs.YtapilekangmcoaaGreatDoor.Logic
open Go.RowKit
attribute [local go_sem high] run_val_eql run_val_neq
/-- A slice of values in memory. -/
def VS (w : World) (A : Option Addr) (vs : List Val) : Prop := ∀ i v, vs[i]? = some v → ∃ b o, A = some ⟨b, o, none⟩ ∧ w.cell? ⟨b, o + i * 5, none⟩ = some (.int .i64 v.k) ∧ w.cell? ⟨b, o + i * 5 + 1, none⟩ = some (.int .i64 v.n) ∧ w.cell? ⟨b, o + i * 5 + 2, none⟩ = some (.int .i64 v.s) ∧ w.cell? ⟨b, o + i * 5 + 3, none⟩ = some (.string v.t) ∧ w.cell? ⟨b, o + i * 5 + 4, none⟩ = some (.int .i64 v.m)
theorem VS.step {w w' : World} {A : Option Addr} {vs : List Val} (h : VS w A vs) (hb : Below w.heap.size w w') : VS w' A vs := fun i v hv => by
 obtain ⟨b, o, h0, h1, h2, h3, h4, h5⟩ := h i v hv
 exact ⟨b, o, h0, keep1 hb h1, keep1 hb h2, keep1 hb h3, keep1 hb h4, keep1 hb h5⟩
theorem VS.alloc {w : World} {A : Option Addr} {vs : List Val} (h : VS w A vs) (o : Obj) : VS (w.alloc o) A vs := h.step (balloc (Below.refl _ _) o)
theorem VS.drew {w : World} {A : Option Addr} {vs : List Val} (h : VS w A vs) : VS w.drew A vs := h
def allS (want : Bool) : Val → List Val → Val
 | out, [] => out
 | out, v :: r => if veq v (tv !want) then v else if veq v (tv want) then allS want out r else allS want nul r
theorem all_hit {want : Bool} {out v : Val} {vs : List Val} {k : Nat} (hlt : k < vs.length) (hv : vs[k] = v) (h : veq v (tv !want) = true) : allS want out (vs.drop k) = v := by
 rw [List.drop_eq_getElem_cons hlt, hv, allS, if_pos h]
theorem all_on {want : Bool} {out v : Val} {vs : List Val} {k : Nat} (hlt : k < vs.length) (hv : vs[k] = v) (h : veq v (tv !want) = false) (h2 : veq v (tv want) = true) : allS want out (vs.drop k) = allS want out (vs.drop (k + 1)) := by
 rw [List.drop_eq_getElem_cons hlt, hv, allS, if_neg (by simp [h]), if_pos h2]
theorem all_off {want : Bool} {out v : Val} {vs : List Val} {k : Nat} (hlt : k < vs.length) (hv : vs[k] = v) (h : veq v (tv !want) = false) (h2 : veq v (tv want) = false) : allS want out (vs.drop k) = allS want nul (vs.drop (k + 1)) := by
 rw [List.drop_eq_getElem_cons hlt, hv, allS, if_neg (by simp [h]), if_neg (by simp [h2])]
set_option maxHeartbeats 400000 in
theorem all_any (want : Bool) (A : Option Addr) (c : Nat) (vs : List Val) (w : World) (hv : VS w A vs) (hn : vs.length ≤ maxLen) :
   Calls Tryz.prog 88 #[.bool want, .slice A vs.length c] w fun e w' => e = .returned (allS want (tv want) vs).v ∧ Below w.heap.size w w' := by
 unfold maxLen at hn
 go_enter Tryz.func88, Tryz.ntmps88
 go_wp2_with (go_at_call 41; refine (truth_any _ _).mono ?_; rintro e w' ⟨rfl, c1, c2, rfl⟩)
 go_loopw [12] (fun i wr => ∃ (k : Nat) (out : Val), k ≤ vs.length ∧ i = .int .i64 k ∧ Blk wr w.heap.size 25 #[.int .i64 0, .int .i64 0, .int .i64 0, .string ⟨#[]⟩, .int .i64 0] ∧ Blk wr (w.heap.size + 1 + 1 + 1) 25 #[.int .i64 out.k, .int .i64 out.n, .int .i64 out.s, .string out.t, .int .i64 out.m] ∧ Below w.heap.size w wr ∧ allS want (tv want) vs = allS want out (vs.drop k)) (fun i _ => vs.length - (intOf i).toNat)
 case atStart =>
   refine ⟨0, tv want, Nat.zero_le _, rfl, ?_, ?_, by (repeat' first | (with_reducible first | exact .refl _ _ | assumption | apply balloc | apply Below.drew | apply bset | refine bstep ?_ ‹_› | refine bturn ?_ ‹_› ?_) | go_size), rfl⟩
   · exact (((Blk.new _ _ _).alloc _).alloc _).alloc _
   · exact Blk.new' _ _ _ (by simp)
 case round =>
   obtain ⟨k, out, hk, rfl, hb0, hb1, hbl, hall⟩ := hrel
   have HA := Lib.hid hall
   clear hall
   have hsz := hbl.size
   by_cases hlt : k < vs.length
   · obtain ⟨b, o, rfl, g0, g1, g2, g3, g4⟩ := (hv.step hbl) k vs[k] (List.getElem?_eq_getElem hlt)
     generalize hvv : vs[k] = v at *
     have HV := Lib.hid hvv
     clear hvv
     clear hv
     go_wp2_with (first | (go_at_call 41; refine (truth_any _ _).mono ?_; rintro e w' ⟨rfl, c1, c2, rfl⟩) | (refine wpList_store_blk hb0 rfl _ _ _ (by rfl) _ (by rfl) (by rfl) (by repeat first | with_reducible first | exact hb0 | apply Blk.alloc | apply Blk.drew | refine Blk.far ?_ (by simp <;> omega) _ | refine Blk.turn ?_ ‹_› (by omega)) (by rfl) (by kernel_rfl) (by simp [Value.oneCell']) ?_; intro wt hb0n ht) | (refine wpList_store_blk hb1 rfl _ _ _ (by rfl) _ (by rfl) (by rfl) (by repeat first | with_reducible first | exact hb1 | apply Blk.alloc | apply Blk.drew | refine Blk.far ?_ (by simp <;> omega) _ | refine Blk.turn ?_ ‹_› (by omega)) (by rfl) (by kernel_rfl) (by simp [Value.oneCell']) ?_; intro wt hb1n ht))
     · refine ret_blk rfl hb0n rfl Tryz.underlying25 rfl (by kernel_rfl) rfl ?_
       exact ⟨by rw [HA.out, all_hit hlt HV.out (by assumption)]; rfl, bturn (by (repeat' first | (with_reducible first | exact .refl _ _ | assumption | apply balloc | apply Below.drew | apply bset | refine bstep ?_ ‹_› | refine bturn ?_ ‹_› ?_) | go_size)) ht (Nat.le_refl _)⟩
     · go_roundw
       case rel => exact ⟨k + 1, out, by omega, by go_num, by (repeat first | with_reducible first | exact hb0 | apply Blk.alloc | apply Blk.drew | refine Blk.far ?_ (by simp <;> omega) _ | refine Blk.turn ?_ ‹_› (by omega)), by (repeat first | with_reducible first | exact hb1 | apply Blk.alloc | apply Blk.drew | refine Blk.far ?_ (by simp <;> omega) _ | refine Blk.turn ?_ ‹_› (by omega)), by (repeat' first | (with_reducible first | exact .refl _ _ | assumption | apply balloc | apply Below.drew | apply bset | refine bstep ?_ ‹_› | refine bturn ?_ ‹_› ?_) | go_size), by rw [HA.out, all_on hlt HV.out (by assumption) (by assumption)]⟩
       case measure => simp [intOf]; omega
     · go_roundw
       case rel => exact ⟨k + 1, nul, by omega, by go_num, Blk.turn (by (repeat first | with_reducible first | exact hb0 | apply Blk.alloc | apply Blk.drew | refine Blk.far ?_ (by simp <;> omega) _ | refine Blk.turn ?_ ‹_› (by omega))) ht (by omega), hb1n, bturn (by (repeat' first | (with_reducible first | exact .refl _ _ | assumption | apply balloc | apply Below.drew | apply bset | refine bstep ?_ ‹_› | refine bturn ?_ ‹_› ?_) | go_size)) ht (by omega), by rw [HA.out, all_off hlt HV.out (by assumption) (by assumption)]⟩
       case measure => simp [intOf]; omega
   · go_wp2_with (first | (refine wpList_load_blk hb1 rfl _ _ (by rfl) (by rfl) (by (repeat first | with_reducible first | exact hb1 | apply Blk.alloc | apply Blk.drew | refine Blk.far ?_ (by simp <;> omega) _ | refine Blk.turn ?_ ‹_› (by omega))) _ Tryz.underlying25 rfl (by kernel_rfl) ?_) | (refine wpList_store_blk hb0 rfl _ _ _ (by rfl) _ (by rfl) (by rfl) (by repeat first | with_reducible first | exact hb0 | apply Blk.alloc | apply Blk.drew | refine Blk.far ?_ (by simp <;> omega) _ | refine Blk.turn ?_ ‹_› (by omega)) (by rfl) (by kernel_rfl) (by simp [Value.oneCell']) ?_; intro wt hb0n ht))
     refine ret_blk rfl hb0n rfl Tryz.underlying25 rfl (by kernel_rfl) rfl ?_
     exact ⟨by rw [HA.out, List.drop_of_length_le (by omega)]; rfl, bturn (by (repeat' first | (with_reducible first | exact .refl _ _ | assumption | apply balloc | apply Below.drew | apply bset | refine bstep ?_ ‹_› | refine bturn ?_ ‹_› ?_) | go_size)) ht (Nat.le_refl _)⟩
theorem and_any (A : Option Addr) (c : Nat) (vs : List Val) (w : World) (hv : VS w A vs) (hn : vs.length ≤ maxLen) :
   Calls Tryz.prog 61 #[.slice A vs.length c] w fun e w' => e = .returned (allS true (tv true) vs).v ∧ Below w.heap.size w w' := by
 go_enter Tryz.func61, Tryz.ntmps61
 have hb0 := Blk.new w 25 #[.int .i64 0, .int .i64 0, .int .i64 0, .string ⟨#[]⟩, .int .i64 0]
 go_wp2_with fail
 refine (all_any _ _ _ _ _ (hv.alloc _) hn).mono ?_
 rintro e w' ⟨rfl, hb⟩
 replace hb0 := hb0.step hb
 unfold Val.v
 go_wp2_with (refine wpList_store_blk hb0 rfl _ _ _ (by rfl) _ (by rfl) (by rfl) (by repeat first | with_reducible first | exact hb0 | apply Blk.alloc | apply Blk.drew | refine Blk.far ?_ (by simp <;> omega) _ | refine Blk.turn ?_ ‹_› (by omega)) (by rfl) (by kernel_rfl) (by simp [Value.oneCell']) ?_; intro wt hb0n ht)
 refine ret_blk rfl hb0n rfl Tryz.underlying25 rfl (by kernel_rfl) rfl ?_
 exact ⟨rfl, bturn (by (repeat' first | (with_reducible first | exact .refl _ _ | assumption | apply balloc | apply Below.drew | apply bset | refine bstep ?_ ‹_› | refine bturn ?_ ‹_› ?_) | go_size)) ht (Nat.le_refl _)⟩
theorem or_any (A : Option Addr) (c : Nat) (vs : List Val) (w : World) (hv : VS w A vs) (hn : vs.length ≤ maxLen) :
   Calls Tryz.prog 62 #[.slice A vs.length c] w fun e w' => e = .returned (allS false (tv false) vs).v ∧ Below w.heap.size w w' := by
 go_enter Tryz.func62, Tryz.ntmps62
 have hb0 := Blk.new w 25 #[.int .i64 0, .int .i64 0, .int .i64 0, .string ⟨#[]⟩, .int .i64 0]
 go_wp2_with fail
 refine (all_any _ _ _ _ _ (hv.alloc _) hn).mono ?_
 rintro e w' ⟨rfl, hb⟩
 replace hb0 := hb0.step hb
 unfold Val.v
 go_wp2_with (refine wpList_store_blk hb0 rfl _ _ _ (by rfl) _ (by rfl) (by rfl) (by repeat first | with_reducible first | exact hb0 | apply Blk.alloc | apply Blk.drew | refine Blk.far ?_ (by simp <;> omega) _ | refine Blk.turn ?_ ‹_› (by omega)) (by rfl) (by kernel_rfl) (by simp [Value.oneCell']) ?_; intro wt hb0n ht)
 refine ret_blk rfl hb0n rfl Tryz.underlying25 rfl (by kernel_rfl) rfl ?_
 exact ⟨rfl, bturn (by (repeat' first | (with_reducible first | exact .refl _ _ | assumption | apply balloc | apply Below.drew | apply bset | refine bstep ?_ ‹_› | refine bturn ?_ ‹_› ?_) | go_size)) ht (Nat.le_refl _)⟩
end Go.Proofs.YtapilekangmcoaaGreatDoor.Logic
namespace Go.Proofs.YtapilekangmcoaaGreatDoor.Dq
/-- The trial quotient x of a by the divisor's upper half y1, with what is left of it, p: never below the true quotient q of a * B + c by y1 * B + y0. -/
structure Trial (B a c y1 y0 q x p : Nat) : Prop where
 eq : x * y1 + p = a
 ge : q ≤ x
 le : x ≤ B + 1
section
variable {B a c y1 y0 q x p : Nat}
/-- The true quotient's place. -/
structure Quo (B a c y1 y0 q : Nat) : Prop where
 le : q * (y1 * B + y0) ≤ a * B + c
 lt : a * B + c < (q + 1) * (y1 * B + y0)
 lo : a < y1 * B + y0
 hc : c < B
 h0 : y0 < B
 h1 : B ≤ 2 * y1
 h1b : y1 < B
theorem Quo.of (h1 : a < y1 * B + y0) (h2 : c < B) (h3 : y0 < B) (h4 : B ≤ 2 * y1) (h5 : y1 < B) : Quo B a c y1 y0 ((a * B + c) / (y1 * B + y0)) := by
 have hY : 0 < y1 * B + y0 := by omega
 refine ⟨Nat.div_mul_le_self _ _, ?_, h1, h2, h3, h4, h5⟩
 have := Nat.lt_div_mul_add (a := a * B + c) hY
 rw [Nat.add_mul, Nat.one_mul]
 exact this
theorem Quo.small (Q : Quo B a c y1 y0 q) : q < B := by
 apply Nat.lt_of_not_le
 intro hle
 have h1 : B * (y1 * B + y0) ≤ q * (y1 * B + y0) := Nat.mul_le_mul_right _ hle
 have h2 : (a + 1) * B ≤ (y1 * B + y0) * B := Nat.mul_le_mul_right _ Q.lo
 have h3 := Q.le
 have h4 := Q.hc
 rw [Nat.mul_comm B] at h1
 rw [Nat.add_mul, Nat.one_mul] at h2
 omega
theorem Trial.start (Q : Quo B a c y1 y0 q) : Trial B a c y1 y0 q (a / y1) (a % y1) := by
 have hy : 0 < y1 := by have := Q.h1; have := Q.hc; omega
 refine ⟨by rw [Nat.mul_comm]; exact Nat.div_add_mod a y1, ?_, ?_⟩
 · rw [Nat.le_div_iff_mul_le hy]
   apply Nat.le_of_lt_succ
   apply Nat.lt_of_mul_lt_mul_right (a := B)
   have h1 := Q.le
   have h2 := Q.hc
   rw [Nat.mul_add, ← Nat.mul_assoc] at h1
   rw [Nat.succ_mul]
   omega
 · have h1 := Q.lo
   have h2 := Q.h0
   have h3 := Q.h1
   have h4 : a < (B + 2) * y1 := by rw [Nat.add_mul, Nat.mul_comm B]; omega
   have := (Nat.div_lt_iff_lt_mul hy).2 h4
   omega
/-- x * (y1 * B + y0) against a * B + c. -/
theorem Trial.cmp (T : Trial B a c y1 y0 q x p) : x * (y1 * B + y0) + p * B = a * B + x * y0 := by
 have h := T.eq
 have h2 : a * B = x * y1 * B + p * B := by rw [← h, Nat.add_mul]
 rw [Nat.mul_add, ← Nat.mul_assoc]
 omega
theorem Trial.over (Q : Quo B a c y1 y0 q) (T : Trial B a c y1 y0 q x p) (h : B ≤ x ∨ B * p + c < x * y0) : q + 1 ≤ x := by
 rcases h with h | h
 · have := Q.small; omega
 · apply Nat.lt_of_not_le
   intro hle
   have h1 : x * (y1 * B + y0) ≤ q * (y1 * B + y0) := Nat.mul_le_mul_right _ hle
   have h2 := Q.le
   have h3 := T.cmp
   rw [Nat.mul_comm B] at h
   omega
theorem Trial.next (Q : Quo B a c y1 y0 q) (T : Trial B a c y1 y0 q x p) (h : B ≤ x ∨ B * p + c < x * y0) : Trial B a c y1 y0 q (x - 1) (p + y1) := by
 have h1 := T.over Q h
 have h2 := T.le
 refine ⟨?_, by omega, by omega⟩
 obtain ⟨z, rfl⟩ : ∃ z, x = z + 1 := ⟨x - 1, by omega⟩
 have := T.eq
 rw [Nat.add_mul, Nat.one_mul] at this
 rw [Nat.add_sub_cancel]
 omega
theorem Trial.fits (Q : Quo B a c y1 y0 q) (T : Trial B a c y1 y0 q x p) (h : x * y0 ≤ B * p + c) : x = q := by
 apply Nat.le_antisymm _ T.ge
 apply Nat.le_of_lt_succ
 apply Nat.lt_of_mul_lt_mul_right (a := y1 * B + y0)
 have h1 := Q.lt
 have h2 := T.cmp
 rw [Nat.mul_comm B] at h
 show x * (y1 * B + y0) < (q + 1) * (y1 * B + y0)
 omega
theorem Trial.done (Q : Quo B a c y1 y0 q) (T : Trial B a c y1 y0 q x p) (h : ¬ (B ≤ x ∨ B * p + c < x * y0)) : x = q := T.fits Q (by omega)
theorem Trial.broke (Q : Quo B a c y1 y0 q) (T : Trial B a c y1 y0 q x p) (hx : x ≤ B) (hp : B ≤ p) : x = q := by
 refine T.fits Q ?_
 have h0 := Q.h0
 have h1 : x * y0 ≤ B * y0 := Nat.mul_le_mul_right _ hx
 have h2 : B * y0 ≤ B * p := Nat.mul_le_mul_left _ (by omega)
 omega
end
end Go.Proofs.YtapilekangmcoaaGreatDoor.Dq
