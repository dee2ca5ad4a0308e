/- Expressions that came in as an argument: how they read. -/
import Derived.Test.YtapilekangmcoaaGreatDoorA22
import Derived.Test.YtapilekangmcoaaGreatDoorA23
set_option linter.unusedVariables false
set_option linter.unusedSimpArgs false
set_option maxHeartbeats 8000000
set_option maxRecDepth 100000
namespace Go.Proofs.YtapilekangmcoaaGreatDoor
open Go.ChangeShapes Go.WideShapes Go.ChangeAt Go.RowKit Go.Deep Go.Shelf
theorem cells_exp : Tryz.prog.cellsOf 33 = 8 := by kernel_rfl
theorem cells_exps : Tryz.prog.cellsOf 31 = 1 := by kernel_rfl
instance : Inhabited Ex := ⟨zeroE⟩
/-- What its numbers and lengths keep to. -/
inductive EOk : Ex → Prop
 | mk (o : Int) (v : Vl) (s : Bs) (kids : List Ex) (ho : I64 o) (hk : I64 v.k) (hv : VOk v) (ht : v.t.length ≤ maxLen) (hs : s.length ≤ maxLen) (hl : kids.length ≤ maxLen) (h : ∀ k ∈ kids, EOk k) : EOk (.mk o v s kids)
section
variable {H : Type} {enc : TypeId × Value → H} {w : World} {base : Nat} {spare : Nat → Bool} {held : Bool}
theorem expr_shape (fuel : Nat) : ∀ (cs : List Value) (x : DataW H × List MemPlace), DataW.trod enc Tryz.prog w base spare held fuel 33 cs = some x → ∃ e : Ex, XM (fun _ => True) w e cs.toArray ∧ EOk e := by
 induction fuel using Nat.strongRecOn with
 | ind fuel ih =>
   intro cs x h
   obtain ⟨xs, n, rfl, _, hl, hxl, hf⟩ := DataW.trod_struct Tryz.underlying33 h
   rw [cells_exp] at hl
   match cs, hl with
   | [c0, c1, c2, c3, c4, c5, c6, c7], _ =>
     match xs, hxl with
     | [y0, y1, y2, y3], _ =>
       have h0 := hf 0 _ rfl
       have h1 := hf 1 _ rfl
       have h2 := hf 2 _ rfl
       have h3 := hf 3 _ rfl
       simp only [cells_int, cells_val, cells_string, cells_exps, List.drop_zero, List.drop_succ_cons, List.take_succ_cons, List.take_zero, List.getElem?_cons_zero, List.getElem?_cons_succ] at h0 h1 h2 h3
       obtain ⟨o, e0, _, wo⟩ := DataW.trod_int Tryz.underlying3 h0
       obtain ⟨v, e1, hvk, hvo, hvt⟩ := val_shape h1
       obtain ⟨t, e2, _, wt⟩ := DataW.trod_string Tryz.underlying9 h2
       have hk : ∃ (A : Option Addr) (c : Nat) (kids : List Ex) (f : Nat → Array Value), [c7] = [.slice A kids.length c] ∧ kids.length ≤ maxLen ∧ (∀ i k, kids[i]? = some k → XM (fun _ => True) w k (f i) ∧ EOk k) ∧
           ∀ i k, kids[i]? = some k → ∃ g b, A = some ⟨g, b, none⟩ ∧ True ∧ ∀ j u, (f i)[j]? = some u → w.cell? ⟨g, b + i * 8 + j, none⟩ = some u := by
         rcases DataW.trod_slice Tryz.underlying31 h3 with ⟨hcs, _⟩ | ⟨a, len, cap, elems, rest, n', rfl, hcs, _, _, hlc, hm, hel, hi, _⟩
         · exact ⟨none, 0, [], fun _ => #[], hcs, by simp, (fun i k h => by simp at h), (fun i k h => by simp at h)⟩
         · have hex : ∀ i, i < len → ∃ q : Ex × List Value, XM (fun _ => True) w q.1 q.2.toArray ∧ EOk q.1 ∧ ∀ j, j < 8 → w.cell? ((a.add (i * 8)).add j) = q.2[j]? := fun i hil => by
             have hb := hi i hil
             rw [cells_exp] at hb
             have hel2 : elems[i]? = some (elems[i]'(by omega)) := List.getElem?_eq_getElem _
             rw [hel2] at hb
             obtain ⟨cs', hc, ht⟩ := Option.bind_eq_some_iff.1 hb
             obtain ⟨e, he, hok⟩ := ih n' (by omega) cs' _ ht
             obtain ⟨_, _, hat⟩ := World.cells?_some hc
             exact ⟨(e, cs'), he, hok, hat⟩
           obtain ⟨f, hfv⟩ := choose_lt hex
           refine ⟨some a, cap, (List.range len).map fun i => (f i).1, fun i => (f i).2.toArray, by
           have h9 : List.take (Tryz.prog.cellsOf 31) [c7] = [.slice (some a) len cap] := hcs
           rw [cells_exps] at h9
           simpa using h9, by simpa using Nat.le_trans hlc hm, fun i k hk => ?_, fun i k hk => ?_⟩
           · have hil : i < len := by
               have := (List.getElem?_eq_some_iff.1 hk).1
               simpa using this
             have hk' : (f i).1 = k := by simpa [hil] using hk
             subst hk'
             exact ⟨(hfv i hil).1, (hfv i hil).2.1⟩
           · have hil : i < len := by
               have := (List.getElem?_eq_some_iff.1 hk).1
               simpa using this
             have hc := (hfv i hil).2.2
             have hz8 : (f i).2.length = 8 := by simpa using (hfv i hil).1.size
             have hs : a.spot = none := by
               rcases Option.eq_none_or_eq_some a.spot with h | ⟨y, h⟩
               · exact h
               · exfalso
                 have hz0 : (f 0).2.length = 8 := by simpa using (hfv 0 (by omega)).1.size
                 have h2 := (hfv 0 (by omega)).2.2 0 (by decide)
                 have h3 : (f 0).2[0]? = some ((f 0).2[0]'(by omega)) := List.getElem?_eq_getElem _
                 rw [h3] at h2
                 simp [Addr.add, World.cell?, h] at h2
                 split at h2 <;> simp at h2
             obtain ⟨b, off, sp⟩ := a
             simp only at hs
             subst hs
             have e : ∀ j, ((⟨b, off, none⟩ : Addr).add (i * 8)).add j = ⟨b, off + i * 8 + j, none⟩ := fun j => by
               rw [add_add]
               unfold Addr.add
               split
               · next h => simp only [Addr.mk.injEq, and_true, true_and]; omega
               · simp only [Addr.mk.injEq, and_true, true_and]; omega
             refine ⟨b, off, rfl, trivial, fun j u hj => ?_⟩
             have hj2 : (f i).2[j]? = some u := by simpa using hj
             have hjn : j < 8 := by rw [← hz8]; exact (List.getElem?_eq_some_iff.1 hj2).1
             have := hc j hjn
             rw [e] at this
             rw [this]
             exact hj2
       obtain ⟨A, c, kids, f, e3, hkl, hkx, hkc⟩ := hk
       unfold cellsV at e1
       cases e0; cases e1; cases e2; cases e3
       refine ⟨.mk o v t.data.toList kids, ?_, .mk o v _ kids (lit_i64 wo) hvk hvo hvt (by simpa using wt) hkl fun k hk => ?_⟩
       · exact .mk o v t.data.toList kids A c f hkl (fun i k h => (hkx i k h).1) hkc
       · obtain ⟨i, hi⟩ := List.mem_iff_getElem?.1 hk
         exact (hkx i k hi).2
/-- An expression that came in. -/
theorem open_expr {r : Reach} {b0 : Nat} {v : Value} {d : DataW H} {p : List MemPlace} (hv : Value.okWide Tryz.prog w r b0 33 v) (h : DataW.Trod enc Tryz.prog w base spare held 33 v d p) :
   ∃ (e : Ex) (cs : Array Value), v = .agg cs ∧ XM (fun _ => True) w e cs ∧ EOk e := by
 obtain ⟨cs, rfl, hsz⟩ := okWide_struct Tryz.underlying33 hv
 obtain ⟨fuel, hf⟩ := h
 obtain ⟨e, h1, h2⟩ := expr_shape fuel _ _ hf
 exact ⟨e, cs, rfl, (by simpa using h1 : XM (fun _ => True) w e (Value.agg cs).cells), h2⟩
end
end Go.Proofs.YtapilekangmcoaaGreatDoor
