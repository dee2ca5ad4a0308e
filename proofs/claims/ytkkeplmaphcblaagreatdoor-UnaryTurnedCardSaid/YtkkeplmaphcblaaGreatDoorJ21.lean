/- Tokens that came in as an argument: how they read, and what a bound on all that is read says of each. same, of the package soffitlaw07, at tokens of any place. The walk of lex.Join at any tokens. -/
import Derived.Deep.DeepCutAuto
import Derived.Test.YtkkeplmaphcblaaGreatDoorJ16
import Derived.Test.YtkkeplmaphcblaaGreatDoorJ20
import Derived.Test.YtkkeplmaphcblaaGreatDoorJ18
namespace Go.Proofs.YtkkeplmaphcblaaGreatDoor
open Go.ChangeShapes Go.WideShapes Go.ChangeAt Go.RowKit Go.Deep

/-- A token of any kind and at any place. -/
structure Ti where
  k : Int
  a : Int
  t : Bs
  n : Int
  s : Int
  m : Int
def Ti.cells (t : Ti) : List Value := [.int .i64 t.k, .int .i64 t.a, .string (bs t.t), .int .i64 t.n, .int .i64 t.s, .int .i64 t.m]
def Tk.i (t : Tk) : Ti := ⟨t.k, t.a, t.t, t.n, t.s, t.m⟩
/-- Such tokens in memory. -/
def TMi (w : World) (A : Option Addr) (L : List Ti) : Prop := ∀ i t, L[i]? = some t → ∃ g o, A = some ⟨g, o, none⟩ ∧ ∀ j v, t.cells[j]? = some v → w.cell? ⟨g, o + i * 6 + j, none⟩ = some v
theorem TMi.step {w w' : World} {A : Option Addr} {L : List Ti} (h : TMi w A L) (hb : Below w.heap.size w w') : TMi w' A L := fun i t ht => by
  obtain ⟨g, o, e, hc⟩ := h i t ht
  exact ⟨g, o, e, fun j v hj => keep1 hb (hc j v hj)⟩
theorem TMi.stepB {w w' : World} {A : Option Addr} {L : List Ti} (h : TMi w A L) (hb : Below w.heap.size w w') : TMi w' A L := h.step hb
theorem TMi.nil (w : World) (A : Option Addr) : TMi w A [] := fun i t h => by simp at h
theorem TMi.take {w : World} {A : Option Addr} {L : List Ti} (h : TMi w A L) (n : Nat) : TMi w A (L.take n) := fun i t ht => h i t (by
  rw [List.getElem?_take] at ht
  split at ht
  · exact ht
  · cases ht)
theorem TM.i {w : World} {A : Option Addr} {L : List Tk} (h : TM w A L) : TMi w A (L.map Tk.i) := fun i t ht => by
  rw [List.getElem?_map, Option.map_eq_some_iff] at ht
  obtain ⟨u, hu, rfl⟩ := ht
  exact h i u hu
theorem tmi_get {w : World} {A : Option Addr} {L : List Ti} (h : TMi w A L) {k : Nat} {t : Ti} (ht : L[k]? = some t) : ∃ g o, A = some ⟨g, o, none⟩ ∧ w.cell? ⟨g, o + k * 6, none⟩ = some (.int .i64 t.k) ∧ w.cell? ⟨g, o + k * 6 + 1, none⟩ = some (.int .i64 t.a) ∧ w.cell? ⟨g, o + k * 6 + 2, none⟩ = some (.string (bs t.t)) ∧ w.cell? ⟨g, o + k * 6 + 3, none⟩ = some (.int .i64 t.n) ∧ w.cell? ⟨g, o + k * 6 + 4, none⟩ = some (.int .i64 t.s) ∧ w.cell? ⟨g, o + k * 6 + 5, none⟩ = some (.int .i64 t.m) := by
  obtain ⟨g, o, e, hc⟩ := h k t ht
  exact ⟨g, o, e, hc 0 _ rfl, hc 1 _ rfl, hc 2 _ rfl, hc 3 _ rfl, hc 4 _ rfl, hc 5 _ rfl⟩

theorem cells_int : Tryz.prog.cellsOf 3 = 1 := by kernel_rfl
theorem cells_string : Tryz.prog.cellsOf 9 = 1 := by kernel_rfl
theorem cells_dec : Tryz.prog.cellsOf 23 = 2 := by kernel_rfl
theorem cells_tok : Tryz.prog.cellsOf 149 = 6 := by kernel_rfl
theorem lit_i64 {n : Int} (h : (Lit.int .i64 n).wf = true) : I64 n := by
  have h2 : (decide (IntKind.i64.min ≤ n) && decide (n ≤ IntKind.i64.max)) = true := h
  simp only [Bool.and_eq_true, decide_eq_true_eq] at h2
  exact h2
structure Ti.Ok (t : Ti) : Prop where
  n : I64 t.n
  s : I64 t.s
  m : I64 t.m

section
variable {H : Type} {enc : TypeId × Value → H} {w : World} {base : Nat} {spare : Nat → Bool} {held : Bool}
set_option maxRecDepth 100000 in
theorem tok_shape {fuel : Nat} {cs : List Value} {x : DataW H × List MemPlace} (h : DataW.trod enc Tryz.prog w base spare held fuel 149 cs = some x) : ∃ v : Ti, cs = v.cells ∧ v.Ok ∧ v.t.length + 1 ≤ Rows.uptoBulk x.1 := by
  obtain ⟨xs, n, _, hxe, hl, hxl, hf⟩ := DataW.trod_struct Tryz.underlying149 h
  rw [cells_tok] at hl
  match cs, hl with
  | [c0, c1, c2, c3, c4, c5], _ =>
    match xs, hxl with
    | [y0, y1, y2, y3, y4], _ =>
      have h0 := hf 0 _ rfl
      have h1 := hf 1 _ rfl
      have h2 := hf 2 _ rfl
      have h3 := hf 3 _ rfl
      have h4 := hf 4 _ rfl
      simp only [List.getElem?_cons_zero, List.getElem?_cons_succ] at h0 h1 h2 h3 h4
      obtain ⟨k, e0, _, wk⟩ := DataW.trod_int Tryz.underlying3 h0
      obtain ⟨a, e1, _, wa⟩ := DataW.trod_int Tryz.underlying3 h1
      obtain ⟨t, e2, ht, wt⟩ := DataW.trod_string Tryz.underlying9 h2
      obtain ⟨m, e5, _, wm⟩ := DataW.trod_int Tryz.underlying3 h4
      obtain ⟨zs, n', _, _, _, hzl, hg⟩ := DataW.trod_struct Tryz.underlying23 h3
      match zs, hzl with
      | [z0, z1], _ =>
        have g0 := hg 0 _ rfl
        have g1 := hg 1 _ rfl
        simp only [List.getElem?_cons_zero, List.getElem?_cons_succ] at g0 g1
        obtain ⟨d, e3, _, wd⟩ := DataW.trod_int Tryz.underlying3 g0
        obtain ⟨s, e4, _, ws⟩ := DataW.trod_int Tryz.underlying3 g1
        cases e0; cases e1; cases e2; cases e3; cases e4; cases e5
        refine ⟨⟨k, a, t.data.toList, d, s, m⟩, rfl, ⟨lit_i64 wd, lit_i64 ws, lit_i64 wm⟩, ?_⟩
        rw [hxe]
        simp only [Rows.uptoBulk]
        have hp : Rows.uptoBulk (y2.1) ≤ Rows.uptoBulkAll ([y0, y1, y2, y3, y4].map (·.1)) := bulks.part_le (by simp)
        have hb : Rows.uptoBulk (y2.1) = t.data.toList.length + 1 := by rw [ht]; exact bulks.string_eq _
        omega

set_option maxRecDepth 100000 in
theorem open_toks {r : Reach} {b0 : Nat} {v : Value} {d : DataW H} {p : List MemPlace} (hv : Value.okWide Tryz.prog w r b0 67 v) (h : DataW.Trod enc Tryz.prog w base spare held 67 v d p) :
    ∃ (A : Option Addr) (c : Nat) (L : List Ti), v = .slice A L.length c ∧ TMi w A L ∧ L.length ≤ c ∧ c ≤ maxLen ∧ (∀ t ∈ L, t.Ok ∧ t.t.length ≤ Rows.uptoBulk d) ∧ L.length ≤ Rows.uptoBulk d := by
  obtain ⟨a0, len, cap, rfl⟩ := okWide_slice Tryz.underlying67 hv
  obtain ⟨fuel, hf⟩ := h
  rcases open_slice Tryz.underlying67 hf with ⟨hcs, _⟩ | ⟨a, len', cap', m, n, D, Pl, hcs, _, hl, hm, hmm, hx, hi⟩
  · simp [Value.cells] at hcs
    obtain ⟨rfl, rfl, rfl⟩ := hcs
    exact ⟨none, 0, [], rfl, TMi.nil _ _, by simp, by simp [maxLen], fun a ha => by simp at ha, by simp⟩
  · simp [Value.cells] at hcs
    obtain ⟨rfl, rfl, rfl⟩ := hcs
    have hlm : len ≤ m := by rw [hmm]; split <;> omega
    have hd : d = .slice ((List.range len).map D) ((List.range (m - len)).map fun j => D (len + j)) := congrArg Prod.fst hx
    have hex : ∀ i, i < len → ∃ v : Ti, (v.Ok ∧ v.t.length ≤ Rows.uptoBulk d) ∧ ∀ j, j < 6 → w.cell? ((a.add (i * 6)).add j) = v.cells[j]? := fun i hil => by
      obtain ⟨cs', hc, ht⟩ := hi i (by omega)
      rw [cells_tok] at hc
      obtain ⟨_, _, hat⟩ := World.cells?_some hc
      obtain ⟨v, rfl, hok, hbk⟩ := tok_shape ht
      refine ⟨v, ⟨hok, ?_⟩, hat⟩
      have h1 : Rows.uptoBulk (D i) ≤ Rows.uptoBulkAll ((List.range len).map D) := bulks.part_le (List.mem_map.2 ⟨i, List.mem_range.2 hil, rfl⟩)
      have h2 := bulks.slice_elems ((List.range len).map D) ((List.range (m - len)).map fun j => D (len + j))
      rw [← hd] at h2
      simp only at hbk
      omega
    haveI : Inhabited Ti := ⟨⟨0, 0, [], 0, 0, 0⟩⟩
    obtain ⟨f, hfv⟩ := choose_lt hex
    refine ⟨some a, cap, (List.range len).map f, by simp, ?_, by simpa using hl, hm, fun x hx => ?_, ?_⟩
    · intro i v hv
      have hil : i < len := by
        have := (List.getElem?_eq_some_iff.1 hv).1
        simpa using this
      have hv' : f i = v := by simpa [hil] using hv
      subst hv'
      have hc := (hfv i hil).2
      have hs : a.spot = none := by
        rcases Option.eq_none_or_eq_some a.spot with h | ⟨y, h⟩
        · exact h
        · exfalso
          have := (hfv 0 (by omega)).2 0 (by omega)
          simp [Addr.add, Ti.cells, World.cell?, h] at this
          split at this <;> simp at this
      obtain ⟨b, o, sp⟩ := a
      simp only at hs
      subst hs
      have e : ∀ j, ((⟨b, o, none⟩ : Addr).add (i * 6)).add j = ⟨b, o + i * 6 + j, none⟩ := fun j => by
        rw [add_add]
        unfold Addr.add
        split
        · next h => simp only [Addr.mk.injEq, and_true, true_and]; omega
        · simp only [Addr.mk.injEq, and_true, true_and]; omega
      refine ⟨b, o, rfl, fun j u hj => ?_⟩
      have hj6 : j < 6 := (List.getElem?_eq_some_iff.1 hj).1
      have := hc j hj6
      rw [e] at this
      rw [this]
      exact hj
    · obtain ⟨i, hi', rfl⟩ := List.mem_map.1 hx
      exact (hfv i (by simpa using hi')).1
    · rw [hd]
      have := bulks.slice_le ((List.range len).map D) ((List.range (m - len)).map fun j => D (len + j))
      simp only [List.length_map, List.length_range] at this ⊢
      omega
end
end Go.Proofs.YtkkeplmaphcblaaGreatDoor

namespace Go.Proofs.YtkkeplmaphcblaaGreatDoor
open Go.RowKit
end Go.Proofs.YtkkeplmaphcblaaGreatDoor

namespace Go.Proofs.YtkkeplmaphcblaaGreatDoor
open Go.RowKit

/-- All texts, if each token has one. -/
def allS : List (Option Bs) → Option (List Bs)
  | [] => some []
  | none :: _ => none
  | some o :: r => (allS r).map (o :: ·)
theorem allS_app : ∀ (a b : List (Option Bs)), allS (a ++ b) = match allS a with | none => none | some P => (allS b).map (P ++ ·)
  | [], b => by
    show allS b = (allS b).map ([] ++ ·)
    cases allS b <;> rfl
  | none :: a, b => rfl
  | some o :: a, b => by
    show (allS (a ++ b)).map (o :: ·) = _
    rw [allS_app a b]
    show _ = match (allS a).map (o :: ·) with | none => none | some P => (allS b).map (P ++ ·)
    cases allS a with
    | none => rfl
    | some P => cases allS b <;> rfl
theorem allS_step {os : List (Option Bs)} {P : List Bs} {k : Nat} {u : Bs} (h : allS (os.take k) = some P) (hk : os[k]? = some (some u)) : allS (os.take (k + 1)) = some (P ++ [u]) := by
  rw [List.take_add_one, hk, allS_app, h]
  rfl
theorem allS_stop {os : List (Option Bs)} {P : List Bs} {k : Nat} (h : allS (os.take k) = some P) (hk : os[k]? = some none) : allS os = none := by
  obtain ⟨hlt, he⟩ := List.getElem?_eq_some_iff.1 hk
  have : os = os.take k ++ (none :: os.drop (k + 1)) := by
    conv => lhs; rw [← List.take_append_drop k os, List.drop_eq_getElem_cons hlt, he]
  rw [this, allS_app, h]
  rfl
theorem allS_len : ∀ {os : List (Option Bs)} {P : List Bs}, allS os = some P → P.length = os.length
  | [], P, h => by cases h; rfl
  | none :: r, P, h => by cases h
  | some o :: r, P, h => by
    have h2 : (allS r).map (o :: ·) = some P := h
    cases hr : allS r with
    | none => rw [hr] at h2; cases h2
    | some Q =>
      rw [hr] at h2
      cases h2
      rw [List.length_cons, List.length_cons, allS_len hr]
theorem tail_snoc (P : List Bs) (u : Bs) : tailB 0 (P ++ [u]) = tailB 0 P ++ (if 0 < P.length then 32 :: u else u) := by
  unfold tailB
  rw [List.zipIdx_append, List.flatMap_append]
  simp
/-- What comes of joining. -/
def joinV (os : List (Option Bs)) : Bs × Int :=
  match allS os with
  | none => ([], 2)
  | some P => if (joinB P).length ≤ 65536 then (joinB P, 0) else ([], 10)

end Go.Proofs.YtkkeplmaphcblaaGreatDoor
