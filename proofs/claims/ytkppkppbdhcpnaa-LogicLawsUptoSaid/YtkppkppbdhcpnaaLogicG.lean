/- The walk of LogicLaws, and that list of values as rows of cells. -/
import Derived.Test.YtkppkppbdhcpnaaLogicF
import Derived.Test.YtkppkppbdhcpnaaOpenVal
import Derived.Test.YtkppkppbdhcpnaaAppend
namespace Go.Proofs.Ytkppkppbdhcpnaa
open Go.RowKit
attribute [local go_sem high] run_val_eql run_val_neq

def flat (vs : List Val) : List Value := vs.flatMap Val.cells
theorem flat_length (vs : List Val) : (flat vs).length = vs.length * 5 := by
  induction vs with
  | nil => rfl
  | cons v r ih => simp only [flat, List.flatMap_cons, List.length_append, List.length_cons] at *; rw [ih]; simp [Val.cells]; omega
theorem flat_at (vs : List Val) : ∀ (i : Nat) (v : Val) (j : Nat), vs[i]? = some v → j < 5 → (flat vs)[i * 5 + j]? = v.cells[j]? := by
  induction vs with
  | nil => intro i v j h; simp at h
  | cons x r ih =>
    intro i v j h hj
    have hx : x.cells.length = 5 := rfl
    cases i with
    | zero =>
      obtain rfl : x = v := by simpa using h
      simp only [flat, List.flatMap_cons]
      rw [List.getElem?_append_left (by omega)]
      simp
    | succ i =>
      simp only [flat, List.flatMap_cons]
      rw [List.getElem?_append_right (by omega), hx, show (i + 1) * 5 + j - 5 = i * 5 + j by omega]
      exact ih i v j (by simpa using h) hj
theorem flat_append (a b : List Val) : flat (a ++ b) = flat a ++ flat b := by simp [flat]
theorem flat_one (vs : List Val) : ∀ u ∈ flat vs, u.oneCell' = true := by
  intro u hu
  obtain ⟨v, _, hv⟩ := List.mem_flatMap.1 hu
  simp [Val.cells] at hv
  rcases hv with rfl | rfl | rfl | rfl | rfl <;> rfl

theorem reads_of_vs {w : World} {A : Option Addr} {vs : List Val} (h : VS w A vs) : Reads w w.heap.size 5 A vs.length (flat vs) := by
  refine ⟨flat_length vs, fun hn => ?_⟩
  obtain ⟨b, o, hA, h1, _⟩ := h 0 vs[0] (List.getElem?_eq_getElem hn)
  refine ⟨⟨b, o, none⟩, hA, block_lt_of_cell h1, fun j u hu => ?_⟩
  have hj : j < vs.length * 5 := by
    have := (List.getElem?_eq_some_iff.1 hu).1
    rwa [flat_length] at this
  have hi : j / 5 < vs.length := by omega
  obtain ⟨b', o', hA', c0, c1, c2, c3, c4⟩ := h (j / 5) vs[j / 5] (List.getElem?_eq_getElem hi)
  rw [hA] at hA'
  cases hA'
  have hf := flat_at vs (j / 5) vs[j / 5] (j % 5) (List.getElem?_eq_getElem hi) (by omega)
  rw [show j / 5 * 5 + j % 5 = j by omega, hu] at hf
  have e : (⟨b, o, none⟩ : Addr).add j = ⟨b, o + j / 5 * 5 + j % 5, none⟩ := by
    unfold Addr.add
    split
    · simp only [Addr.mk.injEq, and_true, true_and]; omega
    · simp only [Addr.mk.injEq, and_true, true_and]; omega
  rw [e]
  have h5 : j % 5 < 5 := by omega
  generalize j % 5 = r at *
  match r, h5 with
  | 0, _ => rw [hf]; exact c0
  | 1, _ => rw [hf]; exact c1
  | 2, _ => rw [hf]; exact c2
  | 3, _ => rw [hf]; exact c3
  | 4, _ => rw [hf]; exact c4

theorem vs_of_own {w : World} {base n c : Nat} {A : Option Addr} {vs : List Val} (h : w.ownsRow base 27 5 (.slice A n c) n (flat vs)) : VS w A vs ∧ vs.length = n := by
  have hl : vs.length = n := by have := h.1; rw [flat_length] at this; omega
  refine ⟨fun i v hv => ?_, hl⟩
  have hi : i < n := by have := (List.getElem?_eq_some_iff.1 hv).1; omega
  obtain ⟨g, cap, hA, _, _⟩ := h.form (by omega)
  have hA' : A = some ⟨g, 0, none⟩ := by injection hA
  subst hA'
  have hc := h.cells (g := g) rfl
  have e : ∀ j, j < 5 → w.cell? ⟨g, 0 + i * 5 + j, none⟩ = v.cells[j]? := fun j hj => by
    have hf := flat_at vs i v j hv hj
    have hlt : j < v.cells.length := hj
    rw [List.getElem?_eq_getElem hlt] at hf ⊢
    have := hc (i * 5 + j) _ hf
    rw [← this]
    congr 1
    unfold Addr.add
    split
    · simp only [Addr.mk.injEq, and_true, true_and]; omega
    · simp only [Addr.mk.injEq, and_true, true_and]; omega
  exact ⟨g, 0, rfl, e 0 (by omega), e 1 (by omega), e 2 (by omega), e 3 (by omega), e 4 (by omega)⟩

theorem info_val : (Try.prog.info? 27).map (fun i => (i.zero, i.size, i.bytes)) = some (some (.agg #[.int .i64 0, .int .i64 0, .int .i64 0, .string ⟨#[]⟩, .int .i64 0]), 5, 48) := by kernel_rfl
end Go.Proofs.Ytkppkppbdhcpnaa
