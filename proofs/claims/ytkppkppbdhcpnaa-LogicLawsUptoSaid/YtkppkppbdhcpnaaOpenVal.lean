/- How arguments that hold values (api.Value) read: opened to their cells. -/
import Derived.Test.YtkppkppbdhcpnaaLogicB
import Derived.Test.YtkppkppbdhcpnaaBulk
namespace Go.Proofs.Ytkppkppbdhcpnaa
open Go.ChangeShapes Go.WideShapes Go.ChangeAt Go.RowKit Go.Deep

def Val.cells (v : Val) : List Value := [.int .i64 v.k, .int .i64 v.n, .int .i64 v.s, .string v.t, .int .i64 v.m]
/-- The parts of a value fit their kinds. -/
structure Val.Ok (v : Val) : Prop where
  k : (Lit.int .i64 v.k).wf = true
  n : (Lit.int .i64 v.n).wf = true
  s : (Lit.int .i64 v.s).wf = true
  t : v.t.size ≤ maxLen
  m : (Lit.int .i64 v.m).wf = true

theorem cells_int : Try.prog.cellsOf 3 = 1 := by kernel_rfl
theorem cells_string : Try.prog.cellsOf 9 = 1 := by kernel_rfl
theorem cells_dec : Try.prog.cellsOf 25 = 2 := by kernel_rfl
theorem cells_val : Try.prog.cellsOf 27 = 5 := by kernel_rfl

section
variable {H : Type} {enc : TypeId × Value → H} {w : World} {base : Nat} {spare : Nat → Bool} {held : Bool}

theorem val_shape {fuel : Nat} {cs : List Value} {x : DataW H × List MemPlace} (h : DataW.trod enc Try.prog w base spare held fuel 27 cs = some x) : ∃ v : Val, cs = v.cells ∧ v.Ok := by
  obtain ⟨xs, n, _, _, hl, hxl, hf⟩ := DataW.trod_struct Try.underlying27 h
  rw [cells_val] at hl
  match cs, hl with
  | [c0, c1, c2, c3, c4], _ =>
    match xs, hxl with
    | [y0, y1, y2, y3], _ =>
      have h0 := hf 0 _ rfl
      have h1 := hf 1 _ rfl
      have h2 := hf 2 _ rfl
      have h3 := hf 3 _ rfl
      simp only [cells_int, cells_dec, cells_string, List.drop_zero, List.drop_succ_cons, List.take_succ_cons, List.take_zero, List.getElem?_cons_zero, List.getElem?_cons_succ] at h0 h1 h2 h3
      obtain ⟨k, e0, _, wk⟩ := DataW.trod_int Try.underlying3 h0
      obtain ⟨t, e2, _, wt⟩ := DataW.trod_string Try.underlying9 h2
      obtain ⟨m, e3, _, wm⟩ := DataW.trod_int Try.underlying3 h3
      obtain ⟨zs, n', _, _, _, hzl, hg⟩ := DataW.trod_struct Try.underlying25 h1
      match zs, hzl with
      | [z0, z1], _ =>
        have g0 := hg 0 _ rfl
        have g1 := hg 1 _ rfl
        simp only [cells_int, List.drop_zero, List.drop_succ_cons, List.take_succ_cons, List.take_zero, List.getElem?_cons_zero, List.getElem?_cons_succ] at g0 g1
        obtain ⟨a, e4, _, wa⟩ := DataW.trod_int Try.underlying3 g0
        obtain ⟨b, e5, _, wb⟩ := DataW.trod_int Try.underlying3 g1
        cases e0; cases e2; cases e3; cases e4; cases e5
        exact ⟨⟨k, a, b, t, m⟩, rfl, ⟨wk, wa, wb, wt, wm⟩⟩

/-- An argument that is a value. -/
theorem open_val {r : Reach} {b0 : Nat} {v : Value} {d : DataW H} {p : List MemPlace} (hv : Value.okWide Try.prog w r b0 27 v) (h : DataW.Trod enc Try.prog w base spare held 27 v d p) :
    ∃ a : Val, v = .agg #[.int .i64 a.k, .int .i64 a.n, .int .i64 a.s, .string a.t, .int .i64 a.m] ∧ a.Ok := by
  obtain ⟨cs, rfl, hsz⟩ := okWide_struct Try.underlying27 hv
  obtain ⟨fuel, hf⟩ := h
  obtain ⟨a, ha, hok⟩ := val_shape hf
  refine ⟨a, ?_, hok⟩
  congr 1
  apply Array.toList_inj.1
  simpa [Value.cells, Val.cells] using ha

/-- An argument that is a slice of values. -/
theorem open_vals {r : Reach} {b0 : Nat} {v : Value} {d : DataW H} {p : List MemPlace} (hv : Value.okWide Try.prog w r b0 22 v) (h : DataW.Trod enc Try.prog w base spare held 22 v d p) :
    ∃ (A : Option Addr) (c : Nat) (vs : List Val), v = .slice A vs.length c ∧ VS w A vs ∧ vs.length ≤ c ∧ c ≤ maxLen ∧ (∀ a ∈ vs, a.Ok) ∧ vs.length ≤ Rows.uptoBulk d := by
  obtain ⟨a0, len, cap, rfl⟩ := okWide_slice Try.underlying22 hv
  obtain ⟨fuel, hf⟩ := h
  rcases open_slice Try.underlying22 hf with ⟨hcs, _⟩ | ⟨a, len', cap', m, n, D, Pl, hcs, _, hl, hm, hmm, hx, hi⟩
  · simp [Value.cells] at hcs
    obtain ⟨rfl, rfl, rfl⟩ := hcs
    exact ⟨none, 0, [], rfl, fun i v hv => by simp at hv, by simp, by simp [maxLen], fun a ha => by simp at ha, by simp⟩
  · simp [Value.cells] at hcs
    obtain ⟨rfl, rfl, rfl⟩ := hcs
    have hlm : len ≤ m := by rw [hmm]; split <;> omega
    have hex : ∀ i, i < len → ∃ v : Val, v.Ok ∧ ∀ j, j < 5 → w.cell? ((a.add (i * 5)).add j) = v.cells[j]? := fun i hil => by
      obtain ⟨cs', hc, ht⟩ := hi i (by omega)
      rw [cells_val] at hc
      obtain ⟨_, _, hat⟩ := World.cells?_some hc
      obtain ⟨v, rfl, hok⟩ := val_shape ht
      exact ⟨v, hok, hat⟩
    haveI : Inhabited Val := ⟨nul⟩
    obtain ⟨f, hfv⟩ := choose_lt hex
    refine ⟨some a, cap, (List.range len).map f, by simp, ?_, by simpa using hl, hm, fun x hx => ?_, ?_⟩
    · intro i v hv
      have hil : i < len := by
        have := (List.getElem?_eq_some_iff.1 hv).1
        simpa using this
      have hv' : f i = v := by simpa [hil] using hv
      subst hv'
      have hc := (hfv i hil).2
      have hs : a.spot = none := by
        rcases Option.eq_none_or_eq_some a.spot with h | ⟨y, h⟩
        · exact h
        · exfalso
          have h0 : f 0 = f 0 := rfl
          have := (hfv 0 (by omega)).2 0 (by omega)
          simp [Addr.add, Val.cells, World.cell?, h] at this
          split at this <;> simp at this
      obtain ⟨b, o, sp⟩ := a
      simp only at hs
      subst hs
      have e : ∀ j, ((⟨b, o, none⟩ : Addr).add (i * 5)).add j = ⟨b, o + i * 5 + j, none⟩ := fun j => by
        rw [add_add]
        unfold Addr.add
        split
        · next h => simp only [Addr.mk.injEq, and_true, true_and]; omega
        · simp only [Addr.mk.injEq, and_true, true_and]; omega
      refine ⟨b, o, rfl, ?_, ?_, ?_, ?_, ?_⟩
      · have := hc 0 (by omega); rw [e] at this; simpa [Val.cells] using this
      · have := hc 1 (by omega); rw [e] at this; simpa [Val.cells] using this
      · have := hc 2 (by omega); rw [e] at this; simpa [Val.cells] using this
      · have := hc 3 (by omega); rw [e] at this; simpa [Val.cells] using this
      · have := hc 4 (by omega); rw [e] at this; simpa [Val.cells] using this
    · obtain ⟨i, hi', rfl⟩ := List.mem_map.1 hx
      exact (hfv i (by simpa using hi')).1
    · have hd : d = .slice ((List.range len).map D) ((List.range (m - len)).map fun j => D (len + j)) := congrArg Prod.fst hx
      rw [hd]
      have := bulks.slice_le ((List.range len).map D) ((List.range (m - len)).map fun j => D (len + j))
      simp only [List.length_map, List.length_range] at this ⊢
      omega
end
end Go.Proofs.Ytkppkppbdhcpnaa
