/- Tokens that came in as an argument: how they read, and what a bound on all that is read says of each. same, of the package soffitlaw07, at tokens of any place. The walk of lex.Join at any tokens. -/
import Derived.Test.YtambpkkllgppdaaGreatDoorLexE
import Derived.Test.YtambpkkllgppdaaGreatDoorBulk
import Derived.Deep.DeepCutAuto
import Derived.Test.YtambpkkllgppdaaGreatDoorRepQ
namespace Go.Proofs.YtambpkkllgppdaaGreatDoor
open Go.ChangeShapes Go.WideShapes Go.ChangeAt Go.RowKit Go.Deep

/-- A token of any kind and at any place. -/
structure Ti where
  k : Int
  a : Int
  t : Bs
  n : Int
  s : Int
  m : Int
def Ti.cells (t : Ti) : List Value := [.int .i64 t.k, .int .i64 t.a, .string (bs t.t), .int .i64 t.n, .int .i64 t.s, .int .i64 t.m]
def Tk.i (t : Tk) : Ti := ⟨t.k, t.a, t.t, t.n, t.s, t.m⟩
/-- Such tokens in memory. -/
def TMi (w : World) (A : Option Addr) (L : List Ti) : Prop := ∀ i t, L[i]? = some t → ∃ g o, A = some ⟨g, o, none⟩ ∧ ∀ j v, t.cells[j]? = some v → w.cell? ⟨g, o + i * 6 + j, none⟩ = some v
theorem TMi.step {w w' : World} {A : Option Addr} {L : List Ti} (h : TMi w A L) (hb : Below w.heap.size w w') : TMi w' A L := fun i t ht => by
  obtain ⟨g, o, e, hc⟩ := h i t ht
  exact ⟨g, o, e, fun j v hj => keep1 hb (hc j v hj)⟩
theorem TMi.stepB {w w' : World} {A : Option Addr} {L : List Ti} (h : TMi w A L) (hb : Below w.heap.size w w') : TMi w' A L := h.step hb
theorem TMi.nil (w : World) (A : Option Addr) : TMi w A [] := fun i t h => by simp at h
theorem TMi.take {w : World} {A : Option Addr} {L : List Ti} (h : TMi w A L) (n : Nat) : TMi w A (L.take n) := fun i t ht => h i t (by
  rw [List.getElem?_take] at ht
  split at ht
  · exact ht
  · cases ht)
theorem TM.i {w : World} {A : Option Addr} {L : List Tk} (h : TM w A L) : TMi w A (L.map Tk.i) := fun i t ht => by
  rw [List.getElem?_map, Option.map_eq_some_iff] at ht
  obtain ⟨u, hu, rfl⟩ := ht
  exact h i u hu
theorem tmi_get {w : World} {A : Option Addr} {L : List Ti} (h : TMi w A L) {k : Nat} {t : Ti} (ht : L[k]? = some t) : ∃ g o, A = some ⟨g, o, none⟩ ∧ w.cell? ⟨g, o + k * 6, none⟩ = some (.int .i64 t.k) ∧ w.cell? ⟨g, o + k * 6 + 1, none⟩ = some (.int .i64 t.a) ∧ w.cell? ⟨g, o + k * 6 + 2, none⟩ = some (.string (bs t.t)) ∧ w.cell? ⟨g, o + k * 6 + 3, none⟩ = some (.int .i64 t.n) ∧ w.cell? ⟨g, o + k * 6 + 4, none⟩ = some (.int .i64 t.s) ∧ w.cell? ⟨g, o + k * 6 + 5, none⟩ = some (.int .i64 t.m) := by
  obtain ⟨g, o, e, hc⟩ := h k t ht
  exact ⟨g, o, e, hc 0 _ rfl, hc 1 _ rfl, hc 2 _ rfl, hc 3 _ rfl, hc 4 _ rfl, hc 5 _ rfl⟩

theorem cells_int : Tryz.prog.cellsOf 3 = 1 := by kernel_rfl
theorem cells_string : Tryz.prog.cellsOf 9 = 1 := by kernel_rfl
theorem cells_dec : Tryz.prog.cellsOf 36 = 2 := by kernel_rfl
theorem cells_tok : Tryz.prog.cellsOf 38 = 6 := by kernel_rfl
theorem lit_i64 {n : Int} (h : (Lit.int .i64 n).wf = true) : I64 n := by
  have h2 : (decide (IntKind.i64.min ≤ n) && decide (n ≤ IntKind.i64.max)) = true := h
  simp only [Bool.and_eq_true, decide_eq_true_eq] at h2
  exact h2
structure Ti.Ok (t : Ti) : Prop where
  n : I64 t.n
  s : I64 t.s
  m : I64 t.m

section
variable {H : Type} {enc : TypeId × Value → H} {w : World} {base : Nat} {spare : Nat → Bool} {held : Bool}
set_option maxRecDepth 100000 in
theorem tok_shape {fuel : Nat} {cs : List Value} {x : DataW H × List MemPlace} (h : DataW.trod enc Tryz.prog w base spare held fuel 38 cs = some x) : ∃ v : Ti, cs = v.cells ∧ v.Ok ∧ v.t.length + 1 ≤ Rows.uptoBulk x.1 := by
  obtain ⟨xs, n, _, hxe, hl, hxl, hf⟩ := DataW.trod_struct Tryz.underlying38 h
  rw [cells_tok] at hl
  match cs, hl with
  | [c0, c1, c2, c3, c4, c5], _ =>
    match xs, hxl with
    | [y0, y1, y2, y3, y4], _ =>
      have h0 := hf 0 _ rfl
      have h1 := hf 1 _ rfl
      have h2 := hf 2 _ rfl
      have h3 := hf 3 _ rfl
      have h4 := hf 4 _ rfl
      simp only [cells_int, cells_dec, cells_string, List.drop_zero, List.drop_succ_cons, List.take_succ_cons, List.take_zero, List.getElem?_cons_zero, List.getElem?_cons_succ] at h0 h1 h2 h3 h4
      obtain ⟨k, e0, _, wk⟩ := DataW.trod_int Tryz.underlying3 h0
      obtain ⟨a, e1, _, wa⟩ := DataW.trod_int Tryz.underlying3 h1
      obtain ⟨t, e2, ht, wt⟩ := DataW.trod_string Tryz.underlying9 h2
      obtain ⟨m, e5, _, wm⟩ := DataW.trod_int Tryz.underlying3 h4
      obtain ⟨zs, n', _, _, _, hzl, hg⟩ := DataW.trod_struct Tryz.underlying36 h3
      match zs, hzl with
      | [z0, z1], _ =>
        have g0 := hg 0 _ rfl
        have g1 := hg 1 _ rfl
        simp only [cells_int, List.drop_zero, List.drop_succ_cons, List.take_succ_cons, List.take_zero, List.getElem?_cons_zero, List.getElem?_cons_succ] at g0 g1
        obtain ⟨d, e3, _, wd⟩ := DataW.trod_int Tryz.underlying3 g0
        obtain ⟨s, e4, _, ws⟩ := DataW.trod_int Tryz.underlying3 g1
        cases e0; cases e1; cases e2; cases e3; cases e4; cases e5
        refine ⟨⟨k, a, t.data.toList, d, s, m⟩, rfl, ⟨lit_i64 wd, lit_i64 ws, lit_i64 wm⟩, ?_⟩
        rw [hxe]
        simp only [Rows.uptoBulk]
        have hp : Rows.uptoBulk (y2.1) ≤ Rows.uptoBulkAll ([y0, y1, y2, y3, y4].map (·.1)) := bulks.part_le (by simp)
        have hb : Rows.uptoBulk (y2.1) = t.data.toList.length + 1 := by rw [ht]; exact bulks.string_eq _
        omega

set_option maxRecDepth 100000 in
theorem open_toks {r : Reach} {b0 : Nat} {v : Value} {d : DataW H} {p : List MemPlace} (hv : Value.okWide Tryz.prog w r b0 22 v) (h : DataW.Trod enc Tryz.prog w base spare held 22 v d p) :
    ∃ (A : Option Addr) (c : Nat) (L : List Ti), v = .slice A L.length c ∧ TMi w A L ∧ L.length ≤ c ∧ c ≤ maxLen ∧ (∀ t ∈ L, t.Ok ∧ t.t.length ≤ Rows.uptoBulk d) ∧ L.length ≤ Rows.uptoBulk d := by
  obtain ⟨a0, len, cap, rfl⟩ := okWide_slice Tryz.underlying22 hv
  obtain ⟨fuel, hf⟩ := h
  rcases open_slice Tryz.underlying22 hf with ⟨hcs, _⟩ | ⟨a, len', cap', m, n, D, Pl, hcs, _, hl, hm, hmm, hx, hi⟩
  · simp [Value.cells] at hcs
    obtain ⟨rfl, rfl, rfl⟩ := hcs
    exact ⟨none, 0, [], rfl, TMi.nil _ _, by simp, by simp [maxLen], fun a ha => by simp at ha, by simp⟩
  · simp [Value.cells] at hcs
    obtain ⟨rfl, rfl, rfl⟩ := hcs
    have hlm : len ≤ m := by rw [hmm]; split <;> omega
    have hd : d = .slice ((List.range len).map D) ((List.range (m - len)).map fun j => D (len + j)) := congrArg Prod.fst hx
    have hex : ∀ i, i < len → ∃ v : Ti, (v.Ok ∧ v.t.length ≤ Rows.uptoBulk d) ∧ ∀ j, j < 6 → w.cell? ((a.add (i * 6)).add j) = v.cells[j]? := fun i hil => by
      obtain ⟨cs', hc, ht⟩ := hi i (by omega)
      rw [cells_tok] at hc
      obtain ⟨_, _, hat⟩ := World.cells?_some hc
      obtain ⟨v, rfl, hok, hbk⟩ := tok_shape ht
      refine ⟨v, ⟨hok, ?_⟩, hat⟩
      have h1 : Rows.uptoBulk (D i) ≤ Rows.uptoBulkAll ((List.range len).map D) := bulks.part_le (List.mem_map.2 ⟨i, List.mem_range.2 hil, rfl⟩)
      have h2 := bulks.slice_elems ((List.range len).map D) ((List.range (m - len)).map fun j => D (len + j))
      rw [← hd] at h2
      simp only at hbk
      omega
    haveI : Inhabited Ti := ⟨⟨0, 0, [], 0, 0, 0⟩⟩
    obtain ⟨f, hfv⟩ := choose_lt hex
    refine ⟨some a, cap, (List.range len).map f, by simp, ?_, by simpa using hl, hm, fun x hx => ?_, ?_⟩
    · intro i v hv
      have hil : i < len := by
        have := (List.getElem?_eq_some_iff.1 hv).1
        simpa using this
      have hv' : f i = v := by simpa [hil] using hv
      subst hv'
      have hc := (hfv i hil).2
      have hs : a.spot = none := by
        rcases Option.eq_none_or_eq_some a.spot with h | ⟨y, h⟩
        · exact h
        · exfalso
          have := (hfv 0 (by omega)).2 0 (by omega)
          simp [Addr.add, Ti.cells, World.cell?, h] at this
          split at this <;> simp at this
      obtain ⟨b, o, sp⟩ := a
      simp only at hs
      subst hs
      have e : ∀ j, ((⟨b, o, none⟩ : Addr).add (i * 6)).add j = ⟨b, o + i * 6 + j, none⟩ := fun j => by
        rw [add_add]
        unfold Addr.add
        split
        · next h => simp only [Addr.mk.injEq, and_true, true_and]; omega
        · simp only [Addr.mk.injEq, and_true, true_and]; omega
      refine ⟨b, o, rfl, fun j u hj => ?_⟩
      have hj6 : j < 6 := (List.getElem?_eq_some_iff.1 hj).1
      have := hc j hj6
      rw [e] at this
      rw [this]
      exact hj
    · obtain ⟨i, hi', rfl⟩ := List.mem_map.1 hx
      exact (hfv i (by simpa using hi')).1
    · rw [hd]
      have := bulks.slice_le ((List.range len).map D) ((List.range (m - len)).map fun j => D (len + j))
      simp only [List.length_map, List.length_range] at this ⊢
      omega
end
end Go.Proofs.YtambpkkllgppdaaGreatDoor

namespace Go.Proofs.YtambpkkllgppdaaGreatDoor
open Go.RowKit
attribute [local go_sem high] run_tok_eql run_tok_neq tkeq_self
set_option maxHeartbeats 8000000 in
set_option maxRecDepth 100000 in
theorem same_ti (at_ : Bool) (L M : List Ti) (n : Nat) (hL : L.length = n) (hM : M.length = n) (hn : n ≤ 4000000) (A B : Option Addr) (c d : Nat) (w : World) (hA : TMi w A L) (hB : TMi w B M)
    (heq : ∀ (i : Nat) (t u : Ti), L[i]? = some t → M[i]? = some u → t.k = u.k ∧ t.t = u.t ∧ t.n = u.n ∧ t.s = u.s ∧ t.m = u.m ∧ (at_ = true → t.a = u.a)) :
    Calls Tryz.prog 11 #[.slice A n c, .slice B n d, .bool at_] w fun e w' => e = .returned (.bool true) ∧ Below w.heap.size w w' := by
  have HA := Lib.hid hA
  have HB := Lib.hid hB
  have HE := Lib.hid heq
  clear hA hB heq
  go_enter Tryz.func11, Tryz.ntmps11
  go_wp2_with fail
  go_loopw [7, 8, 9] (fun i _ _ wr => ∃ k : Nat, k ≤ n ∧ i = .int .i64 (k : Int) ∧ Below w.heap.size w wr) (fun i _ _ _ => n - (intOf i).toNat)
  case atStart => exact ⟨0, by omega, rfl, by (repeat' (first | (with_reducible exact Below.refl _ _) | (with_reducible assumption) | (with_reducible refine balloc ?_ _) | (with_reducible refine Below.drew ?_) | (with_reducible refine bset ?_ ?_ _) | (with_reducible refine bstep ?_ (by with_reducible assumption)) | (with_reducible refine bturn ?_ (by with_reducible assumption) ?_) | go_size))⟩
  case round =>
    obtain ⟨k, hk, rfl, hbr⟩ := hrel
    have hsz := hbr.size
    by_cases hlt : k < n
    · obtain ⟨t, ht⟩ : ∃ t, L[k]? = some t := ⟨_, List.getElem?_eq_getElem (by omega)⟩
      obtain ⟨u, hu⟩ : ∃ u, M[k]? = some u := ⟨_, List.getElem?_eq_getElem (by omega)⟩
      obtain ⟨g, f, rfl, c0, c1, c2, c3, c4, c5⟩ := tmi_get (fun i t ht => by
        obtain ⟨g, o, e, hc⟩ := HA.out i t ht
        exact ⟨g, o, e, fun j v hj => keep1 hbr (hc j v hj)⟩ : TMi wr A L) ht
      obtain ⟨g', f', rfl, d0, d1, d2, d3, d4, d5⟩ := tmi_get (fun i t ht => by
        obtain ⟨g, o, e, hc⟩ := HB.out i t ht
        exact ⟨g, o, e, fun j v hj => keep1 hbr (hc j v hj)⟩ : TMi wr B M) hu
      obtain ⟨e1, e2, e3, e4, e5, e6⟩ := HE.out k t u ht hu
      obtain ⟨tk, ta, tt, tn, ts, tm⟩ := t
      obtain ⟨uk, ua, ut, un, us, um⟩ := u
      simp only at e1 e2 e3 e4 e5 e6 c0 c1 c2 c3 c4 c5 d0 d1 d2 d3 d4 d5
      subst e1 e2 e3 e4 e5
      obtain ⟨q, hq⟩ : ∃ q, bs tt = q := ⟨_, rfl⟩
      rw [hq] at c2 d2
      have E6 := Lib.hid e6
      clear e6 ht hu hq
      have hlg : g < wr.heap.size := block_lt_of_cell c0
      have hlg' : g' < wr.heap.size := block_lt_of_cell d0
      have hll := lts hlg
      have hll' := lts hlg'
      go_upto_region 6 with fail
      go_cut [8, 9] (fun p p' wx => ∃ x y : Nat, p = .pointer (some ⟨x, 0, none⟩) ∧ p' = .pointer (some ⟨y, 0, none⟩) ∧ x ≠ y ∧ w.heap.size ≤ x ∧ w.heap.size ≤ y ∧ Blk wx x 38 #[.int .i64 tk, .int .i64 (ta : Int), .string q, .int .i64 tn, .int .i64 ts, .int .i64 tm] ∧ Blk wx y 38 #[.int .i64 tk, .int .i64 (ua : Int), .string q, .int .i64 tn, .int .i64 ts, .int .i64 tm] ∧ Below w.heap.size w wx)
      case first =>
        go_region
        all_goals
          go_wp2
          go_meet
          case rel =>
            first
              | exact ⟨wr.heap.size, wr.heap.size + 1, rfl, rfl, by omega, by omega, by omega, ((Blk.new _ _ _).alloc _).drew, (Blk.new' _ _ _ (by simp)).drew, by (repeat' (first | (with_reducible exact Below.refl _ _) | (with_reducible assumption) | (with_reducible refine balloc ?_ _) | (with_reducible refine Below.drew ?_) | (with_reducible refine bset ?_ ?_ _) | (with_reducible refine bstep ?_ (by with_reducible assumption)) | (with_reducible refine bturn ?_ (by with_reducible assumption) ?_) | go_size))⟩
              | exact ⟨wr.heap.size + 1, wr.heap.size, rfl, rfl, by omega, by omega, by omega, (Blk.new' _ _ _ (by simp)).drew, ((Blk.new _ _ _).alloc _).drew, by (repeat' (first | (with_reducible exact Below.refl _ _) | (with_reducible assumption) | (with_reducible refine balloc ?_ _) | (with_reducible refine Below.drew ?_) | (with_reducible refine bset ?_ ?_ _) | (with_reducible refine bstep ?_ (by with_reducible assumption)) | (with_reducible refine bturn ?_ (by with_reducible assumption) ?_) | go_size))⟩
      case rest =>
        obtain ⟨x, y, rfl, rfl, hxy, hx, hy, KX, KY, hbc⟩ := hcut
        clear c0 c1 c2 c3 c4 c5 d0 d1 d2 d3 d4 d5 hlg hlg' hll hll'
        have hlx := KX.lt
        have hly := KY.lt
        cases at_ with
        | true =>
          obtain rfl := E6.out rfl
          have x_0 := KX.cell 0
          have x_1 := KX.cell 1
          have x_2 := KX.cell 2
          have x_3 := KX.cell 3
          have x_4 := KX.cell 4
          have x_5 := KX.cell 5
          simp at x_0 x_1 x_2 x_3 x_4 x_5
          have y_0 := KY.cell 0
          have y_1 := KY.cell 1
          have y_2 := KY.cell 2
          have y_3 := KY.cell 3
          have y_4 := KY.cell 4
          have y_5 := KY.cell 5
          simp at y_0 y_1 y_2 y_3 y_4 y_5
          go_wp2_with fail
          go_roundw
          case rel => exact ⟨k + 1, by omega, by go_num, hbc⟩
          case measure => simp [intOf]; omega
        | false =>
          have zx := KX.frozen 1
          have zy := KY.frozen 1
          have KX2 := (KX.set_ 1 (.int .i64 0)).far (p := ⟨y, 1, none⟩) (by simpa using hxy) (.int .i64 0)
          have KY2 := (KY.far (p := ⟨x, 1, none⟩) (by simpa using fun e => hxy e.symm) (.int .i64 0)).set_ 1 (.int .i64 0)
          have hb2 : Below w.heap.size w ((wc.setCell ⟨x, 1, none⟩ (.int .i64 0)).setCell ⟨y, 1, none⟩ (.int .i64 0)) := by (repeat' (first | (with_reducible exact Below.refl _ _) | (with_reducible assumption) | (with_reducible refine balloc ?_ _) | (with_reducible refine Below.drew ?_) | (with_reducible refine bset ?_ ?_ _) | (with_reducible refine bstep ?_ (by with_reducible assumption)) | (with_reducible refine bturn ?_ (by with_reducible assumption) ?_) | go_size))
          have zy2 : (wc.setCell ⟨x, 1, none⟩ (.int .i64 0)).frozen? ⟨y, 1, none⟩ = false := (KY.far (p := ⟨x, 1, none⟩) (by simpa using fun e => hxy e.symm) (.int .i64 0)).frozen 1
          have r1 : wc.cell? ⟨x, 1, none⟩ = some (.int .i64 (ta : Int)) := KX.cell 1
          have r2 : wc.cell? ⟨y, 1, none⟩ = some (.int .i64 (ua : Int)) := KY.cell 1
          have r3 : (wc.setCell ⟨x, 1, none⟩ (.int .i64 0)).cell? ⟨y, 1, none⟩ = some (.int .i64 (ua : Int)) := (KY.far (p := ⟨x, 1, none⟩) (by simpa using fun e => hxy e.symm) (.int .i64 0)).cell 1
          go_upto_region 9 with fail
          have x_0 : ((wc.setCell ⟨x, 1, none⟩ (.int .i64 0)).setCell ⟨y, 1, none⟩ (.int .i64 0)).cell? ⟨x, 0, none⟩ = some (.int .i64 tk) := KX2.cell 0
          have x_1 : ((wc.setCell ⟨x, 1, none⟩ (.int .i64 0)).setCell ⟨y, 1, none⟩ (.int .i64 0)).cell? ⟨x, 1, none⟩ = some (.int .i64 0) := KX2.cell 1
          have x_2 : ((wc.setCell ⟨x, 1, none⟩ (.int .i64 0)).setCell ⟨y, 1, none⟩ (.int .i64 0)).cell? ⟨x, 2, none⟩ = some (.string q) := KX2.cell 2
          have x_3 : ((wc.setCell ⟨x, 1, none⟩ (.int .i64 0)).setCell ⟨y, 1, none⟩ (.int .i64 0)).cell? ⟨x, 3, none⟩ = some (.int .i64 tn) := KX2.cell 3
          have x_4 : ((wc.setCell ⟨x, 1, none⟩ (.int .i64 0)).setCell ⟨y, 1, none⟩ (.int .i64 0)).cell? ⟨x, 4, none⟩ = some (.int .i64 ts) := KX2.cell 4
          have x_5 : ((wc.setCell ⟨x, 1, none⟩ (.int .i64 0)).setCell ⟨y, 1, none⟩ (.int .i64 0)).cell? ⟨x, 5, none⟩ = some (.int .i64 tm) := KX2.cell 5
          have y_0 : ((wc.setCell ⟨x, 1, none⟩ (.int .i64 0)).setCell ⟨y, 1, none⟩ (.int .i64 0)).cell? ⟨y, 0, none⟩ = some (.int .i64 tk) := KY2.cell 0
          have y_1 : ((wc.setCell ⟨x, 1, none⟩ (.int .i64 0)).setCell ⟨y, 1, none⟩ (.int .i64 0)).cell? ⟨y, 1, none⟩ = some (.int .i64 0) := KY2.cell 1
          have y_2 : ((wc.setCell ⟨x, 1, none⟩ (.int .i64 0)).setCell ⟨y, 1, none⟩ (.int .i64 0)).cell? ⟨y, 2, none⟩ = some (.string q) := KY2.cell 2
          have y_3 : ((wc.setCell ⟨x, 1, none⟩ (.int .i64 0)).setCell ⟨y, 1, none⟩ (.int .i64 0)).cell? ⟨y, 3, none⟩ = some (.int .i64 tn) := KY2.cell 3
          have y_4 : ((wc.setCell ⟨x, 1, none⟩ (.int .i64 0)).setCell ⟨y, 1, none⟩ (.int .i64 0)).cell? ⟨y, 4, none⟩ = some (.int .i64 ts) := KY2.cell 4
          have y_5 : ((wc.setCell ⟨x, 1, none⟩ (.int .i64 0)).setCell ⟨y, 1, none⟩ (.int .i64 0)).cell? ⟨y, 5, none⟩ = some (.int .i64 tm) := KY2.cell 5
          go_wp2_with fail
          go_roundw
          case rel => exact ⟨k + 1, by omega, by go_num, hb2⟩
          case measure => simp [intOf]; omega
    · obtain rfl : k = n := by omega
      go_wp2
      go_ret
      exact ⟨rfl, hbr⟩
end Go.Proofs.YtambpkkllgppdaaGreatDoor

namespace Go.Proofs.YtambpkkllgppdaaGreatDoor
open Go.RowKit

/-- All texts, if each token has one. -/
def allS : List (Option Bs) → Option (List Bs)
  | [] => some []
  | none :: _ => none
  | some o :: r => (allS r).map (o :: ·)
theorem allS_app : ∀ (a b : List (Option Bs)), allS (a ++ b) = match allS a with | none => none | some P => (allS b).map (P ++ ·)
  | [], b => by
    show allS b = (allS b).map ([] ++ ·)
    cases allS b <;> rfl
  | none :: a, b => rfl
  | some o :: a, b => by
    show (allS (a ++ b)).map (o :: ·) = _
    rw [allS_app a b]
    show _ = match (allS a).map (o :: ·) with | none => none | some P => (allS b).map (P ++ ·)
    cases allS a with
    | none => rfl
    | some P => cases allS b <;> rfl
theorem allS_step {os : List (Option Bs)} {P : List Bs} {k : Nat} {u : Bs} (h : allS (os.take k) = some P) (hk : os[k]? = some (some u)) : allS (os.take (k + 1)) = some (P ++ [u]) := by
  rw [List.take_add_one, hk, allS_app, h]
  rfl
theorem allS_stop {os : List (Option Bs)} {P : List Bs} {k : Nat} (h : allS (os.take k) = some P) (hk : os[k]? = some none) : allS os = none := by
  obtain ⟨hlt, he⟩ := List.getElem?_eq_some_iff.1 hk
  have : os = os.take k ++ (none :: os.drop (k + 1)) := by
    conv => lhs; rw [← List.take_append_drop k os, List.drop_eq_getElem_cons hlt, he]
  rw [this, allS_app, h]
  rfl
theorem allS_len : ∀ {os : List (Option Bs)} {P : List Bs}, allS os = some P → P.length = os.length
  | [], P, h => by cases h; rfl
  | none :: r, P, h => by cases h
  | some o :: r, P, h => by
    have h2 : (allS r).map (o :: ·) = some P := h
    cases hr : allS r with
    | none => rw [hr] at h2; cases h2
    | some Q =>
      rw [hr] at h2
      cases h2
      rw [List.length_cons, List.length_cons, allS_len hr]
theorem tail_snoc (P : List Bs) (u : Bs) : tailB 0 (P ++ [u]) = tailB 0 P ++ (if 0 < P.length then 32 :: u else u) := by
  unfold tailB
  rw [List.zipIdx_append, List.flatMap_append]
  simp
/-- What comes of joining. -/
def joinV (os : List (Option Bs)) : Bs × Int :=
  match allS os with
  | none => ([], 2)
  | some P => if (joinB P).length ≤ 65536 then (joinB P, 0) else ([], 10)

set_option maxHeartbeats 16000000 in
set_option maxRecDepth 100000 in
theorem join_any (wf : Ti → Option Bs) (L : List Ti) (hL : L.length ≤ 4000000) (A : Option Addr) (n c : Nat) (hn : n = L.length) (w : World) (hM : TMi w A L)
    (hob : ∀ t ∈ L, ∀ o, wf t = some o → o.length ≤ 4000000) (J : ByteArray) (je : Int) (hJ : bs (joinV (L.map wf)).1 = J) (hje : (joinV (L.map wf)).2 = je)
    (HONE : Hid (∀ (k : Nat) (t : Ti), L[k]? = some t → ∀ W, Below w.heap.size w W → Calls Tryz.prog 24 #[.agg #[.int .i64 t.k, .int .i64 t.a, .string (bs t.t), .int .i64 t.n, .int .i64 t.s, .int .i64 t.m]] W fun e w' => (∃ u, e = .returned (.tuple #[.string u, .bool (wf t).isSome]) ∧ (∀ o, wf t = some o → u = bs o)) ∧ Below W.heap.size W w')) :
    Calls Tryz.prog 14 #[.slice A n c] w fun e w' => e = .returned (.tuple #[.string J, .int .i64 je]) ∧ Below w.heap.size w w' := by
  subst hn
  have HB0 := Lib.hid (Lib.fresh_isBuilder 49 5 w)
  have HM := Lib.hid hM
  have HJ := Lib.hid (And.intro hJ hje)
  have Hob := Lib.hid hob
  clear hJ hje hM hob
  go_enter Tryz.func14, Tryz.ntmps14
  go_wp2_with fail
  go_loopw [12, 5, 6, 7, 8, 9] (fun i f _ _ _ _ wv => ∃ (k : Nat) (fl : Bool) (o : Bs) (P : List Bs), k ≤ L.length ∧ i = .int .i64 (k : Int) ∧ f = .bool fl ∧ Hid (allS ((L.map wf).take k) = some P ∧ P.length = k ∧ (fl = false → o = tailB 0 P) ∧ o.length ≤ 65536 ∧ (fl = true → 65536 < (tailB 0 P).length)) ∧ IsB w.heap.size w.heap.size o wv ∧ Below w.heap.size w wv) (fun i _ _ _ _ _ _ => L.length - (intOf i).toNat)
  case atStart => exact ⟨0, false, [], [], by omega, rfl, rfl, Lib.hid ⟨rfl, rfl, fun _ => rfl, by simp, fun h => by cases h⟩, HB0.out, by (repeat' (first | (with_reducible exact Below.refl _ _) | (with_reducible assumption) | (with_reducible refine balloc ?_ _) | (with_reducible refine Below.drew ?_) | (with_reducible refine bset ?_ ?_ _) | (with_reducible refine bstep ?_ (by with_reducible assumption)) | (with_reducible refine bturn ?_ (by with_reducible assumption) ?_) | go_size))⟩
  case round =>
    obtain ⟨k, fl, o, P, hk, rfl, rfl, HT, hB, hbr⟩ := hrel
    have hsz := hbr.size
    have HB := Lib.hid hB
    clear hB
    by_cases hlt : k < L.length
    · obtain ⟨t, ht⟩ : ∃ t, L[k]? = some t := ⟨_, List.getElem?_eq_getElem hlt⟩
      obtain ⟨g, f, rfl, c0, c1, c2, c3, c4, c5⟩ := tmi_get (HM.out.stepB hbr) ht
      have HO := Lib.hid (HONE.out k t ht)
      obtain ⟨tt, htt⟩ : ∃ tt, bs t.t = tt := ⟨_, rfl⟩
      rw [htt] at c2 HO
      have hbr1 : Below w.heap.size w (wr.alloc (.cells #[.int .i64 t.k, .int .i64 t.a, .string tt, .int .i64 t.n, .int .i64 t.s, .int .i64 t.m] 38)) := by (repeat' (first | (with_reducible exact Below.refl _ _) | (with_reducible assumption) | (with_reducible refine balloc ?_ _) | (with_reducible refine Below.drew ?_) | (with_reducible refine bset ?_ ?_ _) | (with_reducible refine bstep ?_ (by with_reducible assumption)) | (with_reducible refine bturn ?_ (by with_reducible assumption) ?_) | go_size))
      have HBa := Lib.hid (isb_below HB.out (show Below wr.heap.size wr (wr.alloc (.cells #[.int .i64 t.k, .int .i64 t.a, .string tt, .int .i64 t.n, .int .i64 t.s, .int .i64 t.m] 38)) by (repeat' (first | (with_reducible exact Below.refl _ _) | (with_reducible assumption) | (with_reducible refine balloc ?_ _) | (with_reducible refine Below.drew ?_) | (with_reducible refine bset ?_ ?_ _) | (with_reducible refine bstep ?_ (by with_reducible assumption)) | (with_reducible refine bturn ?_ (by with_reducible assumption) ?_) | go_size))))
      clear HB
      have HB := HBa
      clear HBa
      have hmk : (L.map wf)[k]? = some (wf t) := by rw [List.getElem?_map, ht]; rfl
      cases hwr : wf t with
      | none =>
        have HV : Hid (J = bs [] ∧ je = 2) := Lib.hid (by
          have h1 := allS_stop HT.out.1 (by rw [hmk, hwr])
          have h2 := HJ.out
          unfold joinV at h2
          rw [h1] at h2
          exact ⟨h2.1.symm, h2.2.symm⟩)
        simp only [hwr, Option.isSome_none] at HO
        clear hmk ht htt hwr
        go_wp2_with fail
        refine (HO.out _ hbr1).mono ?_
        rintro _ w2 ⟨⟨u, rfl, _⟩, hb2⟩
        go_wp2_with fail
        go_returns
        exact ⟨by rw [HV.out.1, HV.out.2]; rfl, hbr1.trans (hb2.mono (by simp; omega))⟩
      | some u =>
        simp only [hwr, Option.isSome_some] at HO
        have hus := Hob.out t (List.mem_of_getElem? ht) u hwr
        have hst := allS_step HT.out.1 (by rw [hmk, hwr])
        have hsn := tail_snoc P u
        rw [HT.out.2.1] at hsn
        have hPl : (P ++ [u]).length = k + 1 := by rw [List.length_append, HT.out.2.1]; rfl
        obtain ⟨q, hq⟩ : ∃ q, bs (if 0 < k then 32 :: u else u) = q := ⟨_, rfl⟩
        have hql : q.data.toList = if 0 < k then 32 :: u else u := by rw [← hq]; rfl
        have hqs : q.size ≤ 4000001 := by
          rw [← size_list, hql]
          split
          · rw [List.length_cons]; omega
          · omega
        rw [← hql] at hsn
        obtain ⟨U, hU⟩ : ∃ U, bs u = U := ⟨_, rfl⟩
        have hUs : U.size ≤ 4000000 := by rw [← hU, bs_size]; exact hus
        have HU : Hid (∀ x, (∀ o, some u = some o → x = bs o) → x = U) := Lib.hid (fun x h => (h u rfl).trans hU)
        have HLn := Lib.hid (fun W (h : IsB w.heap.size w.heap.size o W) => by
          have := Tryz.Builder_Len w.heap.size w.heap.size (Lib.byteCells o) W h
          rw [Lib.byteCells_length] at this
          exact this)
        have HS := Lib.hid (fun W (h : IsB w.heap.size w.heap.size o W) hw => str_any w.heap.size w.heap.size (Lib.byteCells o) q W h (by rw [Lib.byteCells_length]; have := HT.out.2.2.2.1; omega) hw)
        have HC := Lib.hid (str_cells o q)
        have hol := HT.out.2.2.2.1
        have koqw : IntKind.i64.wrap ((o.length : Int) + (q.size : Int)) = (o.length : Int) + (q.size : Int) := IntWalk.i64_in _ (by omega)
        have hcat : 0 < k → (⟨#[32]⟩ : ByteArray) ++ U = q := fun h => by
          rw [← hq, if_pos h, ← hU]
          apply ByteArray.ext
          apply Array.toList_inj.1
          rw [ByteArray.data_append, Array.toList_append]
          rfl
        have hsame : ¬ 0 < k → U = q := fun h => by rw [← hq, if_neg h, hU]
        have Hcat := Lib.hid hcat
        have Hsame := Lib.hid hsame
        have HX : Hid (allS ((L.map wf).take (k + 1)) = some (P ++ [u]) ∧ (P ++ [u]).length = k + 1 ∧ tailB 0 (P ++ [u]) = tailB 0 P ++ q.data.toList) := Lib.hid ⟨hst, hPl, hsn⟩
        obtain ⟨k1, hk1⟩ : ∃ k1, k + 1 = k1 := ⟨_, rfl⟩
        have w4 : (k : Int) + 1 = (k1 : Int) := by omega
        have w5 : IntKind.i64.wrap (k1 : Int) = (k1 : Int) := IntWalk.i64_in _ (by omega)
        rw [hk1] at HX
        clear hst hsn hPl hql hcat hsame hU hq hwr hmk ht htt hus
        by_cases hk0 : 0 < k
        · have hki : (0 : Int) < (k : Int) := by omega
          have hcq := Hcat.out hk0
          clear hk0
          go_wp2_with fail
          refine (HO.out _ hbr1).mono ?_
          rintro _ w2 ⟨⟨x, rfl, hx⟩, hb2⟩
          obtain rfl := HU.out x hx
          clear hx
          have HB2 := Lib.hid (isb_below HB.out hb2)
          have Hw2 := Lib.hid ((show Below w.heap.size w w2 from hbr1.trans (hb2.mono (by simp; omega))))
          clear hb2
          cases fl with
          | true =>
            go_wp2_with fail
            go_roundw
            case rel => exact ⟨k1, true, o, P ++ [u], by omega, rfl, rfl, Lib.hid ⟨HX.out.1, HX.out.2.1, (fun h => by cases h), HT.out.2.2.2.1, fun _ => by rw [HX.out.2.2, List.length_append]; have := HT.out.2.2.2.2 (by simp); omega⟩, HB2.out, Hw2.out⟩
            case measure => simp [intOf]; omega
          | false =>
            by_cases hfit : (65536 : Int) < (o.length : Int) + (q.size : Int)
            · have kob : decide ((65536 : Int) < (o.length : Int) + (q.size : Int)) = true := decide_eq_true hfit
              have hfit2 : 65536 < o.length + q.size := by omega
              clear hfit
              go_wp2_with fail
              refine (HLn.out _ HB2.out).mono ?_
              rintro _ _ ⟨rfl, rfl⟩
              go_wp2_with fail
              go_roundw
              case rel => exact ⟨k1, true, o, P ++ [u], by omega, rfl, rfl, Lib.hid ⟨HX.out.1, HX.out.2.1, (fun h => by cases h), HT.out.2.2.2.1, fun _ => by rw [HX.out.2.2, List.length_append, ← HT.out.2.2.1 (by simp), size_list]; exact hfit2⟩, HB2.out, Hw2.out⟩
              case measure => simp [intOf]; omega
            · have kob : decide ((65536 : Int) < (o.length : Int) + (q.size : Int)) = false := decide_eq_false hfit
              have hfit2 : o.length + q.size ≤ 65536 := by omega
              clear hfit
              go_wp2_with fail
              refine (HLn.out _ HB2.out).mono ?_
              rintro _ _ ⟨rfl, rfl⟩
              go_wp2_with fail
              refine (HS.out _ HB2.out (by have := Hw2.out.size; omega)).mono ?_
              rintro _ w3 ⟨rfl, hB3, hb3⟩
              rw [HC.out] at hB3
              go_wp2_with fail
              go_roundw
              case rel => exact ⟨k1, false, o ++ q.data.toList, P ++ [u], by omega, rfl, rfl, Lib.hid ⟨HX.out.1, HX.out.2.1, (fun _ => by rw [HX.out.2.2, ← HT.out.2.2.1 (by simp)]), by rw [List.length_append, size_list]; exact hfit2, (fun h => by cases h)⟩, .inr hB3, Hw2.out.trans hb3⟩
              case measure => simp [intOf]; omega
        · have hki : ¬ (0 : Int) < (k : Int) := by omega
          have hcq := Hsame.out hk0
          clear hk0
          go_wp2_with fail
          refine (HO.out _ hbr1).mono ?_
          rintro _ w2 ⟨⟨x, rfl, hx⟩, hb2⟩
          obtain rfl := HU.out x hx
          clear hx
          subst hcq
          have HB2 := Lib.hid (isb_below HB.out hb2)
          have Hw2 := Lib.hid ((show Below w.heap.size w w2 from hbr1.trans (hb2.mono (by simp; omega))))
          clear hb2
          cases fl with
          | true =>
            go_wp2_with fail
            go_roundw
            case rel => exact ⟨k1, true, o, P ++ [u], by omega, rfl, rfl, Lib.hid ⟨HX.out.1, HX.out.2.1, (fun h => by cases h), HT.out.2.2.2.1, fun _ => by rw [HX.out.2.2, List.length_append]; have := HT.out.2.2.2.2 (by simp); omega⟩, HB2.out, Hw2.out⟩
            case measure => simp [intOf]; omega
          | false =>
            by_cases hfit : (65536 : Int) < (o.length : Int) + (x.size : Int)
            · have kob : decide ((65536 : Int) < (o.length : Int) + (x.size : Int)) = true := decide_eq_true hfit
              have hfit2 : 65536 < o.length + x.size := by omega
              clear hfit
              go_wp2_with fail
              refine (HLn.out _ HB2.out).mono ?_
              rintro _ _ ⟨rfl, rfl⟩
              go_wp2_with fail
              go_roundw
              case rel => exact ⟨k1, true, o, P ++ [u], by omega, rfl, rfl, Lib.hid ⟨HX.out.1, HX.out.2.1, (fun h => by cases h), HT.out.2.2.2.1, fun _ => by rw [HX.out.2.2, List.length_append, ← HT.out.2.2.1 (by simp), size_list]; exact hfit2⟩, HB2.out, Hw2.out⟩
              case measure => simp [intOf]; omega
            · have kob : decide ((65536 : Int) < (o.length : Int) + (x.size : Int)) = false := decide_eq_false hfit
              have hfit2 : o.length + x.size ≤ 65536 := by omega
              clear hfit
              go_wp2_with fail
              refine (HLn.out _ HB2.out).mono ?_
              rintro _ _ ⟨rfl, rfl⟩
              go_wp2_with fail
              refine (HS.out _ HB2.out (by have := Hw2.out.size; omega)).mono ?_
              rintro _ w3 ⟨rfl, hB3, hb3⟩
              rw [HC.out] at hB3
              go_wp2_with fail
              go_roundw
              case rel => exact ⟨k1, false, o ++ x.data.toList, P ++ [u], by omega, rfl, rfl, Lib.hid ⟨HX.out.1, HX.out.2.1, (fun _ => by rw [HX.out.2.2, ← HT.out.2.2.1 (by simp)]), by rw [List.length_append, size_list]; exact hfit2, (fun h => by cases h)⟩, .inr hB3, Hw2.out.trans hb3⟩
              case measure => simp [intOf]; omega
    · obtain rfl : k = L.length := by omega
      have HE : Hid (allS (L.map wf) = some P ∧ (fl = false → o = tailB 0 P) ∧ (fl = true → 65536 < (tailB 0 P).length) ∧ o.length ≤ 65536) := Lib.hid (by
        have h1 := HT.out.1
        rw [List.take_of_length_le (by rw [List.length_map]; exact Nat.le_refl _)] at h1
        exact ⟨h1, HT.out.2.2.1, HT.out.2.2.2.2, HT.out.2.2.2.1⟩)
      cases fl with
      | true =>
        have HV : Hid (J = bs [] ∧ je = 10) := Lib.hid (by
          have h2 := HJ.out
          unfold joinV at h2
          rw [HE.out.1] at h2
          have h3 := HE.out.2.2.1 (by simp)
          rw [tail_join] at h3
          simp only [if_neg (show ¬ (joinB P).length ≤ 65536 by omega)] at h2
          exact ⟨h2.1.symm, h2.2.symm⟩)
        go_wp2_with fail
        go_returns
        exact ⟨by rw [HV.out.1, HV.out.2]; rfl, hbr⟩
      | false =>
        have HV : Hid (J = bs o ∧ je = 0) := Lib.hid (by
          have h2 := HJ.out
          unfold joinV at h2
          rw [HE.out.1] at h2
          have h3 := HE.out.2.1 (by simp)
          rw [tail_join] at h3
          have h4 := HE.out.2.2.2
          rw [h3] at h4
          simp only [if_pos h4] at h2
          rw [h3]
          exact ⟨h2.1.symm, h2.2.symm⟩)
        have HSt := Lib.hid (fun W hh => Tryz.Builder_String_any w.heap.size w.heap.size o W hh)
        go_wp2_with fail
        refine (HSt.out _ HB.out (by omega)).mono ?_
        rintro _ w2 ⟨rfl, hb2⟩
        go_wp2_with fail
        go_returns
        exact ⟨by rw [HV.out.1, HV.out.2]; rfl, hbr.trans hb2⟩
end Go.Proofs.YtambpkkllgppdaaGreatDoor
