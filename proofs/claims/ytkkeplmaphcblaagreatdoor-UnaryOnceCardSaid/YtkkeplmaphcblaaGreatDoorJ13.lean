/- What the rows' lists of package-level variables give to the walks of package lex. Values and rows of structs that came in as an argument: how they read. Tests that came in as an argument: how they read. -/
import Derived.Test.YtkkeplmaphcblaaGreatDoorCards
import Derived.Test.YtkkeplmaphcblaaGreatDoorTie
import Derived.LaidSub
import Derived.LaidMore
import Derived.Lay
import Derived.SevenTiedAt
import Derived.Stop.Joined
import Derived.Deep.DeepHandedRow
import Derived.Lib.LaidTab
import Derived.PinnedBridge
import Derived.ChangeMaps5
import Derived.SizedLaws
import Derived.Test.YtkkeplmaphcblaaGreatDoorJ6
import Derived.Test.YtkkeplmaphcblaaGreatDoorJ7
import Derived.Test.YtkkeplmaphcblaaGreatDoorJ8
namespace Go.Proofs.YtkkeplmaphcblaaGreatDoor
open Go.ChangeShapes Go.WideShapes Go.ChangeAt Go.RowKit

theorem keepTab {W : World} {l : List (String × DataW Unit)} (h : laidMetH Tryz.prog l W)
    (e : (l.filter fun x => x.1 == "internal/strconv.uint64pow10") = [("internal/strconv.uint64pow10", Lib.tabData .u64 Lib.pow10Tab)]) :
    Lib.TabIs Tryz.prog W "internal/strconv.uint64pow10" .u64 Lib.pow10Tab := by
  have h2 := h.filter (fun x => x.1 == "internal/strconv.uint64pow10")
  rw [e] at h2
  exact Lib.tabIs_of_head (g := 6) (rest := []) (by kernel_rfl) (t := 291) (by kernel_rfl) Tryz.underlying291 Tryz.underlying167 (by kernel_rfl) (by kernel_rfl) h2
theorem keepU8 {W : World} {l : List (String × DataW Unit)} (h : laidMetH Tryz.prog l W)
    (e1 : (l.filter fun x => x.1 == "unicode/utf8.first") = [("unicode/utf8.first", Lib.firstData)])
    (e2 : (l.filter fun x => x.1 == "unicode/utf8.acceptRanges") = [("unicode/utf8.acceptRanges", Lib.acceptData)]) : U8T W := by
  have h2 := h.filter (fun x => x.1 == "unicode/utf8.first")
  rw [e1] at h2
  have h3 := h.filter (fun x => x.1 == "unicode/utf8.acceptRanges")
  rw [e2] at h3
  have r2 : Lib.VarReads Tryz.prog W "unicode/utf8.first" Lib.firstData := Lib.laidMet.reads (l := [("unicode/utf8.first", Lib.firstData)]) h2 (List.mem_cons_self ..)
  have r3 : Lib.VarReads Tryz.prog W "unicode/utf8.acceptRanges" Lib.acceptData := Lib.laidMet.reads (l := [("unicode/utf8.acceptRanges", Lib.acceptData)]) h3 (List.mem_cons_self ..)
  exact utf8Tabs_of_readsT (U8Types.of260 Tryz.lays260) ⟨by kernel_rfl, by kernel_rfl, by kernel_rfl, by kernel_rfl, by kernel_rfl, by kernel_rfl, by kernel_rfl⟩ r2 r3
theorem maxLenCell {W : World} (h : W.ShapedOpen Tryz.prog) : ∃ m, W.cell? ⟨1, 0, none⟩ = some (.int .i64 m) ∧ 1 < W.heap.size := by
  obtain ⟨m, hm⟩ := Tryz.laysM219.s1_3 W h
  refine ⟨m, hm, ?_⟩
  apply Nat.lt_of_not_le
  intro hle
  have hm' : W.cell? ⟨1, 0, none⟩ = some (.int .i64 m) := hm
  simp [World.cell?, Array.getElem?_eq_none hle] at hm'
end Go.Proofs.YtkkeplmaphcblaaGreatDoor

namespace Go.Proofs.YtkkeplmaphcblaaGreatDoor
open Go.ChangeShapes Go.WideShapes Go.ChangeAt Go.RowKit Go.Deep Go.Shelf

theorem cells_val : Tryz.prog.cellsOf 25 = 5 := by kernel_rfl
theorem cells_bool : Tryz.prog.cellsOf 4 = 1 := by kernel_rfl

section
variable {H : Type} {enc : TypeId × Value → H} {w : World} {base : Nat} {spare : Nat → Bool} {held : Bool}
set_option maxRecDepth 100000 in
theorem val_shape {fuel : Nat} {cs : List Value} {x : DataW H × List MemPlace} (h : DataW.trod enc Tryz.prog w base spare held fuel 25 cs = some x) : ∃ v : Vl, cs = (cellsV v).toList ∧ I64 v.k ∧ VOk v ∧ v.t.length ≤ maxLen := by
  obtain ⟨xs, n, _, _, hl, hxl, hf⟩ := DataW.trod_struct Tryz.underlying25 h
  rw [cells_val] at hl
  match cs, hl with
  | [c0, c1, c2, c3, c4], _ =>
    match xs, hxl with
    | [y0, y1, y2, y3], _ =>
      have h0 := hf 0 _ rfl
      have h1 := hf 1 _ rfl
      have h2 := hf 2 _ rfl
      have h3 := hf 3 _ rfl
      simp only [cells_int, cells_dec, cells_string, List.drop_zero, List.drop_succ_cons, List.take_succ_cons, List.take_zero, List.getElem?_cons_zero, List.getElem?_cons_succ] at h0 h1 h2 h3
      obtain ⟨k, e0, _, wk⟩ := DataW.trod_int Tryz.underlying3 h0
      obtain ⟨t, e2, _, wt⟩ := DataW.trod_string Tryz.underlying9 h2
      obtain ⟨m, e3, _, wm⟩ := DataW.trod_int Tryz.underlying3 h3
      obtain ⟨zs, n', _, _, _, hzl, hg⟩ := DataW.trod_struct Tryz.underlying23 h1
      match zs, hzl with
      | [z0, z1], _ =>
        have g0 := hg 0 _ rfl
        have g1 := hg 1 _ rfl
        simp only [cells_int, List.drop_zero, List.drop_succ_cons, List.take_succ_cons, List.take_zero, List.getElem?_cons_zero, List.getElem?_cons_succ] at g0 g1
        obtain ⟨a, e4, _, wa⟩ := DataW.trod_int Tryz.underlying3 g0
        obtain ⟨b, e5, _, wb⟩ := DataW.trod_int Tryz.underlying3 g1
        cases e0; cases e2; cases e3; cases e4; cases e5
        exact ⟨⟨k, a, b, t.data.toList, m⟩, rfl, lit_i64 wk, ⟨lit_i64 wa, lit_i64 wb, lit_i64 wm⟩, by simpa using wt⟩
end

/-- A row of structs that came in. -/
theorem open_rm {H : Type} {enc : TypeId × Value → H} {w : World} {base : Nat} {spare : Nat → Bool} {held : Bool} {P : Program} {α : Type} [Inhabited α] {cl : α → List Value} {n : Nat} (hcl : ∀ t, (cl t).length = n) (hn0 : 0 < n) {S T : TypeId} (hu : P.underlying S = some (.slice T)) (hn : P.cellsOf T = n) {Ok : α → Prop}
    (hshape : ∀ fuel cs x, DataW.trod enc P w base spare held fuel T cs = some x → ∃ v, cs = cl v ∧ Ok v) {fuel : Nat} {cs : List Value} {x : DataW H × List MemPlace} (hf : DataW.trod enc P w base spare held fuel S cs = some x) :
    ∃ (A : Option Addr) (c : Nat) (L : List α), cs = [.slice A L.length c] ∧ RM cl n w A L ∧ L.length ≤ c ∧ c ≤ maxLen ∧ ∀ t ∈ L, Ok t := by
  rcases open_slice hu hf with ⟨hcs, _⟩ | ⟨a, len, cap, m, n', D, Pl, hcs, _, hl, hm, hmm, hx, hi⟩
  · exact ⟨none, 0, [], hcs, RM.nil _ _, by simp, by simp [maxLen], fun a ha => by simp at ha⟩
  · have hlm : len ≤ m := by rw [hmm]; split <;> omega
    have hex : ∀ i, i < len → ∃ v : α, Ok v ∧ ∀ j, j < n → w.cell? ((a.add (i * n)).add j) = (cl v)[j]? := fun i hil => by
      obtain ⟨cs', hc, ht⟩ := hi i (by omega)
      rw [hn] at hc
      obtain ⟨_, _, hat⟩ := World.cells?_some hc
      obtain ⟨v, rfl, hok⟩ := hshape _ _ _ ht
      exact ⟨v, hok, hat⟩
    obtain ⟨f, hfv⟩ := choose_lt hex
    refine ⟨some a, cap, (List.range len).map f, by simpa using hcs, ?_, by simpa using hl, hm, fun x hx => ?_⟩
    · intro i v hv
      have hil : i < len := by
        have := (List.getElem?_eq_some_iff.1 hv).1
        simpa using this
      have hv' : f i = v := by simpa [hil] using hv
      subst hv'
      have hc := (hfv i hil).2
      have hs : a.spot = none := by
        rcases Option.eq_none_or_eq_some a.spot with h | ⟨y, h⟩
        · exact h
        · exfalso
          have h2 := (hfv 0 (by omega)).2 0 hn0
          have h3 : (cl (f 0))[0]? = some ((cl (f 0))[0]'(by rw [hcl]; exact hn0)) := List.getElem?_eq_getElem _
          rw [h3] at h2
          simp [Addr.add, World.cell?, h] at h2
          split at h2 <;> simp at h2
      obtain ⟨b, o, sp⟩ := a
      simp only at hs
      subst hs
      have e : ∀ j, ((⟨b, o, none⟩ : Addr).add (i * n)).add j = ⟨b, o + i * n + j, none⟩ := fun j => by
        rw [add_add]
        unfold Addr.add
        split
        · next h => simp only [Addr.mk.injEq, and_true, true_and]; omega
        · simp only [Addr.mk.injEq, and_true, true_and]; omega
      refine ⟨b, o, rfl, fun j u hj => ?_⟩
      have hjn : j < n := by rw [← hcl (f i)]; exact (List.getElem?_eq_some_iff.1 hj).1
      have := hc j hjn
      rw [e] at this
      rw [this]
      exact hj
    · obtain ⟨i, hi', rfl⟩ := List.mem_map.1 hx
      exact (hfv i (by simpa using hi')).1
end Go.Proofs.YtkkeplmaphcblaaGreatDoor

namespace Go.Proofs.YtkkeplmaphcblaaGreatDoor
open Go.ChangeShapes Go.WideShapes Go.ChangeAt Go.RowKit Go.Deep Go.Shelf

theorem cells_tst : Tryz.prog.cellsOf 82 = 13 := by kernel_rfl
theorem cells_tsl : Tryz.prog.cellsOf 45 = 1 := by kernel_rfl

section
variable {H : Type} {enc : TypeId × Value → H} {w : World} {base : Nat} {spare : Nat → Bool} {held : Bool}
set_option maxRecDepth 100000 in
theorem tst_shape {fuel : Nat} {cs : List Value} {x : DataW H × List MemPlace} (h : DataW.trod enc Tryz.prog w base spare held fuel 82 cs = some x) : ∃ v : Tst, cs = clT v ∧ TOk v := by
  obtain ⟨xs, n, _, _, hl, hxl, hf⟩ := DataW.trod_struct Tryz.underlying82 h
  rw [cells_tst] at hl
  match cs, hl with
  | [c0, c1, c2, c3, c4, c5, c6, c7, c8, c9, c10, c11, c12], _ =>
    match xs, hxl with
    | [y0, y1, y2, y3, y4], _ =>
      have h0 := hf 0 _ rfl
      have h1 := hf 1 _ rfl
      have h2 := hf 2 _ rfl
      have h3 := hf 3 _ rfl
      have h4 := hf 4 _ rfl
      simp only [cells_int, cells_val, cells_bool, List.drop_zero, List.drop_succ_cons, List.take_succ_cons, List.take_zero, List.getElem?_cons_zero, List.getElem?_cons_succ] at h0 h1 h2 h3 h4
      obtain ⟨k, e0, _, wk⟩ := DataW.trod_int Tryz.underlying3 h0
      obtain ⟨lo, e1, _, o1, _⟩ := val_shape h1
      obtain ⟨hi, e2, _, o2, _⟩ := val_shape h2
      obtain ⟨ol, e3, _⟩ := DataW.trod_bool Tryz.underlying4 h3
      obtain ⟨oh, e4, _⟩ := DataW.trod_bool Tryz.underlying4 h4
      unfold cellsV at e1 e2
      cases e0; cases e1; cases e2; cases e3; cases e4
      exact ⟨⟨k, lo, hi, ol, oh⟩, rfl, ⟨lit_i64 wk, o1, o2⟩⟩
end

instance : Inhabited Tst := ⟨⟨0, zeroV, zeroV, false, false⟩⟩
section
variable {H : Type} {enc : TypeId × Value → H} {w : World} {base : Nat} {spare : Nat → Bool} {held : Bool}
set_option maxRecDepth 100000 in
theorem open_tests {r : Reach} {b0 : Nat} {v : Value} {d : DataW H} {p : List MemPlace} (hv : Value.okWide Tryz.prog w r b0 47 v) (h : DataW.Trod enc Tryz.prog w base spare held 47 v d p) :
    ∃ (t : Tsts) (A : Option Addr) (c : Nat), v = .agg #[.bool t.any, .bool t.no, .slice A t.l.length c] ∧ RM clT 13 w A t.l ∧ t.l.length ≤ c ∧ c ≤ maxLen ∧ ∀ u ∈ t.l, TOk u := by
  obtain ⟨cs, rfl, hsz⟩ := okWide_struct Tryz.underlying47 hv
  obtain ⟨fuel, hf⟩ := h
  obtain ⟨xs, n, _, _, hl, hxl, hg⟩ := DataW.trod_struct Tryz.underlying47 hf
  obtain ⟨L⟩ := cs
  rw [show Tryz.prog.cellsOf 47 = 3 by kernel_rfl] at hl
  simp only [Value.cells] at hl hg
  match L, hl with
  | [c0, c1, c2], _ =>
    match xs, hxl with
    | [y0, y1, y2], _ =>
      have h0 := hg 0 _ rfl
      have h1 := hg 1 _ rfl
      have h2 := hg 2 _ rfl
      simp only [cells_bool, cells_tsl, List.drop_zero, List.drop_succ_cons, List.take_succ_cons, List.take_zero, List.getElem?_cons_zero, List.getElem?_cons_succ] at h0 h1 h2
      obtain ⟨any, e0, _⟩ := DataW.trod_bool Tryz.underlying4 h0
      obtain ⟨no, e1, _⟩ := DataW.trod_bool Tryz.underlying4 h1
      obtain ⟨A, c, K, e2, hM, hc, hcm, hok⟩ := open_rm clT_len (by decide) Tryz.underlying45 cells_tst (Ok := TOk) (fun _ _ _ h => tst_shape h) h2
      cases e0; cases e1; cases e2
      exact ⟨⟨any, no, K⟩, A, c, rfl, hM, hc, hcm, hok⟩
end
end Go.Proofs.YtkkeplmaphcblaaGreatDoor
