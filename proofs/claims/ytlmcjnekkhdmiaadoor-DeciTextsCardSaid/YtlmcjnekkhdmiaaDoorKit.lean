/- Lemmas that all proofs of this seat share: how a law that changes no old memory closes its row. -/
import Derived.Test.YtlmcjnekkhdmiaaDoorRows
import Derived.WalkKit
import Derived.WalkSpells
import Derived.ProofKit
import Derived.OpenShut
import Derived.Handy
import Derived.Carry
import Derived.Below
import Derived.Lib.Hide
import Derived.Deep.Slices
import Derived.Deep.Fields
import Derived.ChangeSame
import Derived.JoinedCond
import Derived.Deep.MidRow
import Derived.Deep.RegionHeld3
import Derived.Deep.DrawnRows
import Derived.Deep.Draws
set_option linter.unusedVariables false
set_option linter.unusedSimpArgs false
namespace Go.Proofs.YtlmcjnekkhdmiaaDoor
open Go.ChangeShapes Go.WideShapes Go.ChangeAt Go.RowKit Go.Deep

theorem own : ownKnob Tryd.prog.godebug = none := by kernel_rfl
theorem laidOut : laidOutB Tryd.prog = true := by kernel_rfl

section
variable {H : Type} {enc : TypeId × Value → H} {P : Program}

/-- The arguments read behind the call as they read before: nothing old has turned. -/
theorem trodAll_below (hl : laidOutB P = true) {W W' : World} {sp : Nat → Bool} (hb : Below W.heap.size W W') :
    ∀ (ts : List TypeId) (vs : List Value) (ds : List (DataW H)) (ps : List MemPlace), (∀ t ∈ ts, P.readableRec t = true ∧ t < P.types.size) →
      DataW.TrodAll enc P W 0 (fun _ => true) true ts vs ds ps → (∀ x ∈ ps, x.block < W.heap.size) → (∀ x ∈ ps, sp x.block = true) → DataW.TrodAll enc P W' 0 sp true ts vs ds ps
  | [], [], [], _, _, h, _, _ => h
  | t :: ts, v :: vs, d :: ds, ps, ht, h, hlt, hsp => by
    obtain ⟨p, q, h1, h2, rfl⟩ := h
    refine ⟨p, q, ?_, ?_, rfl⟩
    · exact WideElems.Trod_stays hl (ht t (by simp)).1 (ht t (by simp)).2 h1 (fun x hx => hb.same (hlt x (by simp [hx]))) (fun x hx => hsp x (by simp [hx]))
    · exact trodAll_below hl hb ts vs ds q (fun t h => ht t (by simp [h])) h2 (fun x hx => hlt x (by simp [hx])) (fun x hx => hsp x (by simp [hx]))

/-- A LAW's LAST STEP: it answers true, and nothing that was there has turned. -/
theorem law_post {f : Func} {s : ChangeSpec} {W W' : World} {args : Array Value} {ds gs : List (DataW H)} {before : List MemPlace} {tb : TypeId}
    (hl : laidOutB P = true) (hpar : f.params.toList.all (fun t => P.readableRec t && decide (t < P.types.size)) = true) (hr : f.resultTypes = #[tb]) (htb : P.underlying tb = some .bool)
    (hv : s.vars = []) (hfn : s.fn H (ds ++ gs) = { results := [.lit (.bool true)], args := ds })
    (hW : DataW.Whole enc P f.params.toList s.vars false W args.toList ds gs before) (hb : Below W.heap.size W W') :
    s.post enc P f false true false false W args (.bool true) W' := by
  have hlt : ∀ p ∈ before, p.block < W.heap.size := fun p hp => hW.lt p hp
  have hpar' : ∀ t ∈ f.params.toList, P.readableRec t = true ∧ t < P.types.size := fun t ht => by simpa using List.all_eq_true.1 hpar t ht
  have hW2 := hW
  obtain ⟨p, q, hA, hV, rfl, hz, hn⟩ := hW2
  rw [hv] at hV
  obtain ⟨rfl, rfl⟩ := trodVars_none hV
  have hbl : ∀ x ∈ p, x.block < W.heap.size := fun x hx => hlt x (by simp [hx])
  have hold : ∀ x ∈ p, (fun b => decide (b < W.heap.size)) x.block = true := fun x hx => by simpa using hbl x hx
  have hres : (Value.bool true).resultList f.resultTypes.size = [.bool true] := by rw [hr]; rfl
  refine ⟨ds, [], p ++ [], [], p, [], hW, ?_, ?_, ?_, World.keptBut_mono (fun x hx => ⟨hx, Or.inr (by simpa using hx)⟩) (hb.frame (· ∈ p ++ [])), fun h => by cases h⟩
  · rw [hfn, hr]
    exact trodAll_mk1 (shut_bool htb _)
  · rw [hfn]
    exact trodAll_below hl hb _ _ _ _ hpar' hA hbl hold
  · rw [hfn, hv]
    rfl
end

/-- Block g is just the cells cs of element type t, none frozen. -/
def Blk (w : World) (g : Nat) (t : TypeId) (cs : Array Value) : Prop := w.heap[g]? = some (.cells cs t (0, 0))
section
variable {w w' : World} {g : Nat} {t : TypeId} {cs : Array Value}
theorem Blk.lt (h : Blk w g t cs) : g < w.heap.size := by
  rcases Nat.lt_or_ge g w.heap.size with hlt | hge
  · exact hlt
  · unfold Blk at h; rw [Array.getElem?_eq_none hge] at h; cases h
theorem Blk.cell (h : Blk w g t cs) (i : Nat) : w.cell? ⟨g, i, none⟩ = cs[i]? := cell_of_row w g i cs t (0, 0) h
theorem Blk.frozen (h : Blk w g t cs) (i : Nat) : w.frozen? ⟨g, i, none⟩ = false := by
  unfold Blk at h
  simp [World.frozen?, h]
theorem Blk.new (w : World) (t : TypeId) (cs : Array Value) : Blk (w.alloc (.cells cs t)) w.heap.size t cs := heap_alloc_new w _
theorem Blk.new' (w : World) (t : TypeId) (cs : Array Value) {n : Nat} (h : n = w.heap.size) : Blk (w.alloc (.cells cs t)) n t cs := h ▸ heap_alloc_new w _
theorem Blk.drew (h : Blk w g t cs) : Blk w.drew g t cs := h
theorem Blk.drewN (h : Blk w g t cs) (n : Nat) : Blk (w.drewN n) g t cs := h
theorem Blk.alloc (h : Blk w g t cs) (o : Obj) : Blk (w.alloc o) g t cs := (Below.heap_alloc w o g h.lt).trans h
theorem Blk.set_ (h : Blk w g t cs) (i : Nat) (u : Value) : Blk (w.setCell ⟨g, i, none⟩ u) g t (cs.setIfInBounds i u) := by
  unfold Blk at h ⊢
  simp [World.setCell, Array.getElem?_modify, h]
theorem Blk.far (h : Blk w g t cs) {p : Addr} (hp : g ≠ p.block) (u : Value) : Blk (w.setCell p u) g t cs := (Below.heap_setCell w p u g hp).trans h
theorem Blk.below {B : Nat} (h : Blk w g t cs) (hb : Below B w w') (hg : g < B) : Blk w' g t cs := (hb.block g hg).trans h
theorem Blk.step (h : Blk w g t cs) (hb : Below w.heap.size w w') : Blk w' g t cs := h.below hb h.lt
end

/-- Block g alone has turned. -/
structure Turned (w w1 : World) (g : Nat) : Prop where
  os : w1.os = w.os
  tape : w1.tape = w.tape
  output : w1.output = w.output
  size : w1.heap.size = w.heap.size
  block : ∀ k, k ≠ g → w1.heap[k]? = w.heap[k]?
theorem Turned.refl (w : World) (g : Nat) : Turned w w g := ⟨rfl, rfl, rfl, rfl, fun _ _ => rfl⟩
theorem Turned.trans {a b c : World} {g : Nat} (h : Turned a b g) (k : Turned b c g) : Turned a c g :=
  ⟨k.os.trans h.os, k.tape.trans h.tape, k.output.trans h.output, k.size.trans h.size, fun i hi => (k.block i hi).trans (h.block i hi)⟩
theorem Turned.setCell (w : World) (g o : Nat) (u : Value) : Turned w (w.setCell ⟨g, o, none⟩ u) g :=
  ⟨rfl, rfl, rfl, by simp [World.setCell], fun k hk => Below.heap_setCell _ _ _ _ hk⟩
theorem Turned.setCells (g : Nat) : ∀ (vs : List Value) (o : Nat) (w : World), Turned w (w.setCells g o vs) g
  | [], _, w => Turned.refl w g
  | v :: r, o, w => (Turned.setCell w g o v).trans (Turned.setCells g r (o + 1) _)
theorem Blk.turn {w w1 : World} {g k : Nat} {t : TypeId} {cs : Array Value} (h : Blk w k t cs) (ht : Turned w w1 g) (hk : k ≠ g) : Blk w1 k t cs := (ht.block k hk).trans h
theorem bturn {a w w1 : World} {g : Nat} (h : Below a.heap.size a w) (ht : Turned w w1 g) (hg : a.heap.size ≤ g) : Below a.heap.size a w1 :=
  h.trans ⟨ht.os, ht.tape, ht.output, Nat.le_of_eq ht.size.symm, fun k hk => ht.block k (by omega)⟩
theorem Blk.some_setCells {g : Nat} {t : TypeId} : ∀ (vs : List Value) (o : Nat) (w : World) (cs : Array Value), Blk w g t cs → ∃ c2 : Array Value, c2.size = cs.size ∧ Blk (w.setCells g o vs) g t c2
  | [], _, _, cs, h => ⟨cs, rfl, h⟩
  | v :: r, o, w, cs, h => by
    obtain ⟨c2, hs, hb⟩ := Blk.some_setCells r (o + 1) _ _ (h.set_ o v)
    exact ⟨c2, by simpa using hs, hb⟩
theorem Blk.setCells {w : World} {g : Nat} {t : TypeId} {cs cs' : Array Value} (h : Blk w g t cs) (hs : cs'.size = cs.size) : Blk (w.setCells g 0 cs'.toList) g t cs' := by
  obtain ⟨c2, hz, hb⟩ := Blk.some_setCells cs'.toList 0 w cs h
  suffices c2 = cs' by rw [← this]; exact this ▸ hb
  apply Array.ext_getElem?
  intro j
  by_cases hj : j < cs'.size
  · have h1 := World.cell?_setCells_in g cs'.toList 0 w (fun i hi => by
      rw [Nat.zero_add, h.cell i, Array.getElem?_eq_getElem (by simp at hi; omega)]; rfl) j (by simpa using hj)
    rw [Nat.zero_add, hb.cell j] at h1
    rw [h1]
    simp [hj]
  · rw [Array.getElem?_eq_none (by omega), Array.getElem?_eq_none (by omega)]
theorem wpList_store_blk {P : Program} {w w0 : World} {g : Nat} {T : TypeId} {cs : Array Value} (_hb : Blk w0 g T cs) {ops : Array Oper} {rest : List Oper} {o : Oper} {a : Act} {Q : Exit → Act → World → Prop} (hgd : o.guard = none) (ty : TypeId) (x y : Operand) (ho : o.op = .store ty x y)
    (cs' : Array Value) (hx : a.eval x = .pointer (some ⟨g, 0, none⟩)) (hy : a.eval y = .agg cs') (hB : Blk w g T cs) (hs : cs'.size = cs.size)
    (hi : (P.info? ty).map (·.size) = some cs'.size) (h1 : cs'.all (·.oneCell') = true)
    (h : ∀ w1, Blk w1 g T cs' → Turned w w1 g → wpList P ops Q rest (a.put o.dst undef) w1) : wpList P ops Q (o :: rest) a w :=
  wpList_store_mid hgd ty x y ho g 0 cs' hx hy (fun j hj => by
    rw [Nat.zero_add]
    exact ⟨by rw [hB.cell j, Array.getElem?_eq_getElem (by omega)]; rfl, hB.frozen j⟩) hi h1 (h _ (hB.setCells hs) (Turned.setCells g _ _ _))
theorem Blk.rangeAt {w : World} {g : Nat} {t : TypeId} {cs : Array Value} (h : Blk w g t cs) : w.rangeAt g 0 cs.toList := fun j v hv => by
  rw [Nat.zero_add, h.cell j]
  simpa using hv
theorem wpList_load_blk {P : Program} {w w0 : World} {g : Nat} {T : TypeId} {cs : Array Value} (_hb : Blk w0 g T cs) {ops : Array Oper} {rest : List Oper} {o : Oper} {a : Act} {Q : Exit → Act → World → Prop} (hgd : o.guard = none) (ty : TypeId) (x : Operand) (ho : o.op = .load ty x)
    (hx : a.eval x = .pointer (some ⟨g, 0, none⟩)) (hB : Blk w g T cs) (d : TypeDesc)
    (hu : P.underlying ty = some d) (hd : d.isRow = true) (hi : (P.info? ty).map (·.size) = some cs.size)
    (h : wpList P ops Q rest (a.put o.dst (.agg cs)) w) : wpList P ops Q (o :: rest) a w :=
  wpList_load_mid hgd ty x ho g 0 hx cs.toList d hB.rangeAt hu hd (by simpa using hi) (by simpa using h)

/-- A struct result, read out of its known block. -/
theorem ret_blk {P : Program} {fn : Func} {R : Ending → World → Prop} {a : Act} {w : World} {p : Tmp} {ty : TypeId} {g : Nat} {T : TypeId} {cs : Array Value} {d : TypeDesc} (h : fn.results = #[.cell p ty]) (hB : Blk w g T cs)
    (hp : a.tmps.getD p undef = .pointer (some ⟨g, 0, none⟩)) (hu : P.underlying ty = some d) (hd : (match d with | .struct _ | .array _ _ => true | _ => false) = true) (hi : (P.info? ty).map (·.size) = some cs.size)
    (hdf : a.defers = []) (hR : R (.returned (.agg cs)) w) : bodyPost P fn R .ret a w :=
  bodyPost_ret (results_cell_row h a.tmps w g T cs (0, 0) d hp hB hu hd hi) hdf hR
theorem ret_blk2 {P : Program} {fn : Func} {R : Ending → World → Prop} {a : Act} {w : World} {p u : Tmp} {ty : TypeId} {g : Nat} {T : TypeId} {cs : Array Value} {d : TypeDesc} (h : fn.results = #[.cell p ty, .tmp u]) (hB : Blk w g T cs)
    (hp : a.tmps.getD p undef = .pointer (some ⟨g, 0, none⟩)) (hu : P.underlying ty = some d) (hd : (match d with | .struct _ | .array _ _ => true | _ => false) = true) (hi : (P.info? ty).map (·.size) = some cs.size)
    (hdf : a.defers = []) (hR : R (.returned (.tuple #[.agg cs, a.tmps.getD u undef])) w) : bodyPost P fn R .ret a w := by
  refine bodyPost_ret ?_ hdf hR
  rw [results_cell_tmp h, hp]
  simp [asAddr, run_loadVar_row w g T ty cs (0, 0) d hB hu hd hi, Result.andThen]

theorem frozen?_alloc_some (w : World) (a : Addr) (o : Obj) (h : (w.cell? a).isSome = true) : (w.alloc o).frozen? a = w.frozen? a := by
  obtain ⟨v, hv⟩ := Option.isSome_iff_exists.1 h
  exact World.frozen?_of_block (Below.heap_alloc w o _ (block_lt_of_cell hv))

/-- Side conditions of the walk: an older block lies below a world's size however many blocks are laid. -/
theorem lts {a b : Nat} (h : a < b) : a ≤ b ∧ a ≤ b + 1 ∧ a ≤ b + 1 + 1 ∧ a ≤ b + 1 + 1 + 1 ∧ a ≤ b + 1 + 1 + 1 + 1 ∧ a ≤ b + 1 + 1 + 1 + 1 + 1 ∧ a ≤ b + 1 + 1 + 1 + 1 + 1 + 1 ∧ a < b + 1 ∧ a < b + 1 + 1 ∧ a < b + 1 + 1 + 1 ∧ a < b + 1 + 1 + 1 + 1 ∧ a < b + 1 + 1 + 1 + 1 + 1 ∧ a < b + 1 + 1 + 1 + 1 + 1 + 1 := by omega

/-- What a known block of n cells says of each. -/
theorem bf3 {w : World} {g : Nat} {t : TypeId} {a0 a1 a2 : Value} (h : Blk w g t #[a0, a1, a2]) : g < w.heap.size ∧ (g ≤ w.heap.size ∧ g ≤ w.heap.size + 1 ∧ g ≤ w.heap.size + 1 + 1 ∧ g ≤ w.heap.size + 1 + 1 + 1 ∧ g ≤ w.heap.size + 1 + 1 + 1 + 1 ∧ g ≤ w.heap.size + 1 + 1 + 1 + 1 + 1 ∧ g ≤ w.heap.size + 1 + 1 + 1 + 1 + 1 + 1 ∧ g < w.heap.size + 1 ∧ g < w.heap.size + 1 + 1 ∧ g < w.heap.size + 1 + 1 + 1 ∧ g < w.heap.size + 1 + 1 + 1 + 1 ∧ g < w.heap.size + 1 + 1 + 1 + 1 + 1 ∧ g < w.heap.size + 1 + 1 + 1 + 1 + 1 + 1) ∧ w.cell? ⟨g, 0, none⟩ = some a0 ∧ w.cell? ⟨g, 1, none⟩ = some a1 ∧ w.cell? ⟨g, 2, none⟩ = some a2 ∧ w.frozen? ⟨g, 0, none⟩ = false ∧ w.frozen? ⟨g, 1, none⟩ = false ∧ w.frozen? ⟨g, 2, none⟩ = false :=
  ⟨h.lt, lts h.lt, h.cell 0, h.cell 1, h.cell 2, h.frozen 0, h.frozen 1, h.frozen 2⟩
theorem bf5 {w : World} {g : Nat} {t : TypeId} {a0 a1 a2 a3 a4 : Value} (h : Blk w g t #[a0, a1, a2, a3, a4]) : g < w.heap.size ∧ (g ≤ w.heap.size ∧ g ≤ w.heap.size + 1 ∧ g ≤ w.heap.size + 1 + 1 ∧ g ≤ w.heap.size + 1 + 1 + 1 ∧ g ≤ w.heap.size + 1 + 1 + 1 + 1 ∧ g ≤ w.heap.size + 1 + 1 + 1 + 1 + 1 ∧ g ≤ w.heap.size + 1 + 1 + 1 + 1 + 1 + 1 ∧ g < w.heap.size + 1 ∧ g < w.heap.size + 1 + 1 ∧ g < w.heap.size + 1 + 1 + 1 ∧ g < w.heap.size + 1 + 1 + 1 + 1 ∧ g < w.heap.size + 1 + 1 + 1 + 1 + 1 ∧ g < w.heap.size + 1 + 1 + 1 + 1 + 1 + 1) ∧ w.cell? ⟨g, 0, none⟩ = some a0 ∧ w.cell? ⟨g, 1, none⟩ = some a1 ∧ w.cell? ⟨g, 2, none⟩ = some a2 ∧ w.cell? ⟨g, 3, none⟩ = some a3 ∧ w.cell? ⟨g, 4, none⟩ = some a4 ∧ w.frozen? ⟨g, 0, none⟩ = false ∧ w.frozen? ⟨g, 1, none⟩ = false ∧ w.frozen? ⟨g, 2, none⟩ = false ∧ w.frozen? ⟨g, 3, none⟩ = false ∧ w.frozen? ⟨g, 4, none⟩ = false :=
  ⟨h.lt, lts h.lt, h.cell 0, h.cell 1, h.cell 2, h.cell 3, h.cell 4, h.frozen 0, h.frozen 1, h.frozen 2, h.frozen 3, h.frozen 4⟩
theorem bf6 {w : World} {g : Nat} {t : TypeId} {a0 a1 a2 a3 a4 a5 : Value} (h : Blk w g t #[a0, a1, a2, a3, a4, a5]) : g < w.heap.size ∧ (g ≤ w.heap.size ∧ g ≤ w.heap.size + 1 ∧ g ≤ w.heap.size + 1 + 1 ∧ g ≤ w.heap.size + 1 + 1 + 1 ∧ g ≤ w.heap.size + 1 + 1 + 1 + 1 ∧ g ≤ w.heap.size + 1 + 1 + 1 + 1 + 1 ∧ g ≤ w.heap.size + 1 + 1 + 1 + 1 + 1 + 1 ∧ g < w.heap.size + 1 ∧ g < w.heap.size + 1 + 1 ∧ g < w.heap.size + 1 + 1 + 1 ∧ g < w.heap.size + 1 + 1 + 1 + 1 ∧ g < w.heap.size + 1 + 1 + 1 + 1 + 1 ∧ g < w.heap.size + 1 + 1 + 1 + 1 + 1 + 1) ∧ w.cell? ⟨g, 0, none⟩ = some a0 ∧ w.cell? ⟨g, 1, none⟩ = some a1 ∧ w.cell? ⟨g, 2, none⟩ = some a2 ∧ w.cell? ⟨g, 3, none⟩ = some a3 ∧ w.cell? ⟨g, 4, none⟩ = some a4 ∧ w.cell? ⟨g, 5, none⟩ = some a5 ∧ w.frozen? ⟨g, 0, none⟩ = false ∧ w.frozen? ⟨g, 1, none⟩ = false ∧ w.frozen? ⟨g, 2, none⟩ = false ∧ w.frozen? ⟨g, 3, none⟩ = false ∧ w.frozen? ⟨g, 4, none⟩ = false ∧ w.frozen? ⟨g, 5, none⟩ = false :=
  ⟨h.lt, lts h.lt, h.cell 0, h.cell 1, h.cell 2, h.cell 3, h.cell 4, h.cell 5, h.frozen 0, h.frozen 1, h.frozen 2, h.frozen 3, h.frozen 4, h.frozen 5⟩
theorem bf8 {w : World} {g : Nat} {t : TypeId} {a0 a1 a2 a3 a4 a5 a6 a7 : Value} (h : Blk w g t #[a0, a1, a2, a3, a4, a5, a6, a7]) : g < w.heap.size ∧ (g ≤ w.heap.size ∧ g ≤ w.heap.size + 1 ∧ g ≤ w.heap.size + 1 + 1 ∧ g ≤ w.heap.size + 1 + 1 + 1 ∧ g ≤ w.heap.size + 1 + 1 + 1 + 1 ∧ g ≤ w.heap.size + 1 + 1 + 1 + 1 + 1 ∧ g ≤ w.heap.size + 1 + 1 + 1 + 1 + 1 + 1 ∧ g < w.heap.size + 1 ∧ g < w.heap.size + 1 + 1 ∧ g < w.heap.size + 1 + 1 + 1 ∧ g < w.heap.size + 1 + 1 + 1 + 1 ∧ g < w.heap.size + 1 + 1 + 1 + 1 + 1 ∧ g < w.heap.size + 1 + 1 + 1 + 1 + 1 + 1) ∧ w.cell? ⟨g, 0, none⟩ = some a0 ∧ w.cell? ⟨g, 1, none⟩ = some a1 ∧ w.cell? ⟨g, 2, none⟩ = some a2 ∧ w.cell? ⟨g, 3, none⟩ = some a3 ∧ w.cell? ⟨g, 4, none⟩ = some a4 ∧ w.cell? ⟨g, 5, none⟩ = some a5 ∧ w.cell? ⟨g, 6, none⟩ = some a6 ∧ w.cell? ⟨g, 7, none⟩ = some a7 ∧ w.frozen? ⟨g, 0, none⟩ = false ∧ w.frozen? ⟨g, 1, none⟩ = false ∧ w.frozen? ⟨g, 2, none⟩ = false ∧ w.frozen? ⟨g, 3, none⟩ = false ∧ w.frozen? ⟨g, 4, none⟩ = false ∧ w.frozen? ⟨g, 5, none⟩ = false ∧ w.frozen? ⟨g, 6, none⟩ = false ∧ w.frozen? ⟨g, 7, none⟩ = false :=
  ⟨h.lt, lts h.lt, h.cell 0, h.cell 1, h.cell 2, h.cell 3, h.cell 4, h.cell 5, h.cell 6, h.cell 7, h.frozen 0, h.frozen 1, h.frozen 2, h.frozen 3, h.frozen 4, h.frozen 5, h.frozen 6, h.frozen 7⟩
theorem bf13 {w : World} {g : Nat} {t : TypeId} {a0 a1 a2 a3 a4 a5 a6 a7 a8 a9 a10 a11 a12 : Value} (h : Blk w g t #[a0, a1, a2, a3, a4, a5, a6, a7, a8, a9, a10, a11, a12]) : g < w.heap.size ∧ (g ≤ w.heap.size ∧ g ≤ w.heap.size + 1 ∧ g ≤ w.heap.size + 1 + 1 ∧ g ≤ w.heap.size + 1 + 1 + 1 ∧ g ≤ w.heap.size + 1 + 1 + 1 + 1 ∧ g ≤ w.heap.size + 1 + 1 + 1 + 1 + 1 ∧ g ≤ w.heap.size + 1 + 1 + 1 + 1 + 1 + 1 ∧ g < w.heap.size + 1 ∧ g < w.heap.size + 1 + 1 ∧ g < w.heap.size + 1 + 1 + 1 ∧ g < w.heap.size + 1 + 1 + 1 + 1 ∧ g < w.heap.size + 1 + 1 + 1 + 1 + 1 ∧ g < w.heap.size + 1 + 1 + 1 + 1 + 1 + 1) ∧ w.cell? ⟨g, 0, none⟩ = some a0 ∧ w.cell? ⟨g, 1, none⟩ = some a1 ∧ w.cell? ⟨g, 2, none⟩ = some a2 ∧ w.cell? ⟨g, 3, none⟩ = some a3 ∧ w.cell? ⟨g, 4, none⟩ = some a4 ∧ w.cell? ⟨g, 5, none⟩ = some a5 ∧ w.cell? ⟨g, 6, none⟩ = some a6 ∧ w.cell? ⟨g, 7, none⟩ = some a7 ∧ w.cell? ⟨g, 8, none⟩ = some a8 ∧ w.cell? ⟨g, 9, none⟩ = some a9 ∧ w.cell? ⟨g, 10, none⟩ = some a10 ∧ w.cell? ⟨g, 11, none⟩ = some a11 ∧ w.cell? ⟨g, 12, none⟩ = some a12 ∧ w.frozen? ⟨g, 0, none⟩ = false ∧ w.frozen? ⟨g, 1, none⟩ = false ∧ w.frozen? ⟨g, 2, none⟩ = false ∧ w.frozen? ⟨g, 3, none⟩ = false ∧ w.frozen? ⟨g, 4, none⟩ = false ∧ w.frozen? ⟨g, 5, none⟩ = false ∧ w.frozen? ⟨g, 6, none⟩ = false ∧ w.frozen? ⟨g, 7, none⟩ = false ∧ w.frozen? ⟨g, 8, none⟩ = false ∧ w.frozen? ⟨g, 9, none⟩ = false ∧ w.frozen? ⟨g, 10, none⟩ = false ∧ w.frozen? ⟨g, 11, none⟩ = false ∧ w.frozen? ⟨g, 12, none⟩ = false :=
  ⟨h.lt, lts h.lt, h.cell 0, h.cell 1, h.cell 2, h.cell 3, h.cell 4, h.cell 5, h.cell 6, h.cell 7, h.cell 8, h.cell 9, h.cell 10, h.cell 11, h.cell 12, h.frozen 0, h.frozen 1, h.frozen 2, h.frozen 3, h.frozen 4, h.frozen 5, h.frozen 6, h.frozen 7, h.frozen 8, h.frozen 9, h.frozen 10, h.frozen 11, h.frozen 12⟩
theorem keep1 {W w' : World} (hb : Below W.heap.size W w') {a : Addr} {v : Value} (h : W.cell? a = some v) : w'.cell? a = some v := (hb.cell (block_lt_of_cell h)).trans h
theorem keepd {w : World} {a : Addr} {v : Value} (h : w.cell? a = some v) : w.drew.cell? a = some v := h
theorem keepa2 {w : World} {a : Addr} {v : Value} {o : Obj} (h : w.cell? a = some v) : (w.alloc o).cell? a = some v := keep1 (W := w) (w' := w.alloc o) ((Below.refl _ _).alloc (Nat.le_refl _) o) h
theorem keepf {W w' : World} (hb : Below W.heap.size W w') {a : Addr} {v : Value} (h : W.cell? a = some v) : w'.frozen? a = W.frozen? a := hb.frozen (block_lt_of_cell h)
theorem bcell {W w1 : World} (hb : Below W.heap.size W w1) : (∀ b o, b < W.heap.size → w1.cell? ⟨b, o, none⟩ = W.cell? ⟨b, o, none⟩) ∧ (∀ b o, b < W.heap.size → w1.frozen? ⟨b, o, none⟩ = W.frozen? ⟨b, o, none⟩) :=
  ⟨fun b o h => hb.cell (p := ⟨b, o, none⟩) h, fun b o h => hb.frozen (p := ⟨b, o, none⟩) h⟩
theorem bstep {a b c : World} (h : Below a.heap.size a b) (hb : Below b.heap.size b c) : Below a.heap.size a c := h.trans (hb.mono h.size)
theorem balloc {a b : World} (h : Below a.heap.size a b) (o : Obj) : Below a.heap.size a (b.alloc o) := h.alloc h.size o
theorem bset {a b : World} (h : Below a.heap.size a b) {p : Addr} (hp : a.heap.size ≤ p.block) (u : Value) : Below a.heap.size a (b.setCell p u) := h.setCell hp u
theorem bdrewN {a b : World} (h : Below a.heap.size a b) (n : Nat) : Below a.heap.size a (b.drewN n) := ⟨h.os, h.tape, h.output, h.size, h.block⟩
end Go.Proofs.YtlmcjnekkhdmiaaDoor
