/- What taking a text apart leans on, at this program: numbers, days, signs. What every law of package lex calls: awake. The walk of soffitlaw07.same at tokens that are the same. -/
import Derived.Test.YtambpkkllgppdaaGreatDoorLexD
import Derived.Test.YtambpkkllgppdaaGreatDoorTextsWalk
import Derived.Test.YtambpkkllgppdaaGreatDoorTextG
import Derived.Test.YtambpkkllgppdaaGreatDoorDaysX
import Derived.Deep.DeepCutAuto
namespace Go.Proofs.YtambpkkllgppdaaGreatDoor
open Go.RowKit

def s150 : Bs := [49, 46, 53, 48]
def s15 : Bs := [49, 46, 53]
def sDay : Bs := [50, 48, 48, 48, 45, 48, 49, 45, 48, 49]
noncomputable def lxP (m : Int) (l : Bs) : Res := if l = s150 then ⟨15, 1, 0⟩ else if l = s15 then ⟨15, 1, 0⟩ else if h : (bs l).size < 4294967281 then Classical.choose (reads (bs l) m h) else ⟨0, 0, 5⟩
noncomputable def lxD (m : Int) (l : Bs) : Int × Int := if l = sDay then (730119, 0) else if h : (bs l).size < 4294967281 then (Classical.choose (Days.parses (bs l) m h), Classical.choose (Classical.choose_spec (Days.parses (bs l) m h))) else (0, 5)
noncomputable def lxX (m : Int) : Lx := ⟨lxP m, lxD m, fun l => goodS (bs l)⟩

theorem bs_of {s : ByteArray} {l : Bs} (h : s.data.toList = l) : s = bs l := by
  apply ByteArray.ext
  apply Array.toList_inj.1
  rw [h]
  rfl
theorem parse150 (m : Int) (w : World) (hm : w.cell? ⟨0, 0, none⟩ = some (.int .i64 m)) :
    Calls Tryz.prog 58 #[.string (bs s150)] w fun e w' => e = .returned (.tuple #[.agg #[.int .i64 15, .int .i64 1], .int .i64 0]) ∧ Below w.heap.size w w' := by
  have H : CutUp (bs s150) (bs s150) (bs [49]) (bs [53, 48]) (bs [53]) false true := ⟨by decide +kernel, by decide +kernel, by decide +kernel, by decide +kernel, by decide, by decide, by decide, by decide⟩
  refine (parse_Fo H (by decide +kernel) (.inr ⟨rfl, by decide +kernel⟩) (by decide) (by decide) (by decide) 15 (by decide +kernel) (by decide) m w hm).mono ?_
  rintro _ w' ⟨rfl, hb⟩
  exact ⟨by rw [show (decS (bs [53]).size ((15 : Nat) : Int) false).n = 15 by decide +kernel, show (decS (bs [53]).size ((15 : Nat) : Int) false).s = 1 by decide +kernel, show (decS (bs [53]).size ((15 : Nat) : Int) false).e = 0 by decide +kernel], hb⟩
theorem parse15 (m : Int) (w : World) (hm : w.cell? ⟨0, 0, none⟩ = some (.int .i64 m)) :
    Calls Tryz.prog 58 #[.string (bs s15)] w fun e w' => e = .returned (.tuple #[.agg #[.int .i64 15, .int .i64 1], .int .i64 0]) ∧ Below w.heap.size w w' := by
  have H : CutUp (bs s15) (bs s15) (bs [49]) (bs [53]) (bs [53]) false true := ⟨by decide +kernel, by decide +kernel, by decide +kernel, by decide +kernel, by decide, by decide, by decide, by decide⟩
  refine (parse_Fo H (by decide +kernel) (.inr ⟨rfl, by decide +kernel⟩) (by decide) (by decide) (by decide) 15 (by decide +kernel) (by decide) m w hm).mono ?_
  rintro _ w' ⟨rfl, hb⟩
  exact ⟨by rw [show (decS (bs [53]).size ((15 : Nat) : Int) false).n = 15 by decide +kernel, show (decS (bs [53]).size ((15 : Nat) : Int) false).s = 1 by decide +kernel, show (decS (bs [53]).size ((15 : Nat) : Int) false).e = 0 by decide +kernel], hb⟩
theorem parseDay (m : Int) (w : World) (hm : w.cell? ⟨0, 0, none⟩ = some (.int .i64 m)) :
    Calls Tryz.prog 34 #[.string (bs sDay)] w fun e w' => e = .returned (.tuple #[.int .i64 730119, .int .i64 0]) ∧ Below w.heap.size w w' := by
  refine (Days.parse_parts (bs sDay) ⟨#[50, 48, 48, 48]⟩ ⟨#[48, 49]⟩ ⟨#[48, 49]⟩ m (by decide) (by decide) (by decide) (by decide) (by decide +kernel) (by decide +kernel) w hm).mono ?_
  rintro e w' ⟨rfl, hb⟩
  exact ⟨by rw [show (Days.parseR ⟨#[50, 48, 48, 48]⟩ ⟨#[48, 49]⟩ ⟨#[48, 49]⟩).n = 730119 by decide +kernel, show (Days.parseR ⟨#[50, 48, 48, 48]⟩ ⟨#[48, 49]⟩ ⟨#[48, 49]⟩).e = 0 by decide +kernel], hb⟩

theorem lx_ok (m : Int) : LxOK (lxX m) m := by
  refine ⟨?_, ?_, ?_⟩
  · intro s l hl hlen W hW
    obtain rfl := bs_of hl
    show Calls Tryz.prog 58 #[.string (bs l)] W fun e w' => e = .returned (.tuple #[.agg #[.int .i64 (lxP m l).n, .int .i64 (lxP m l).s], .int .i64 (lxP m l).e]) ∧ Below W.heap.size W w'
    unfold lxP
    by_cases h1 : l = s150
    · rw [if_pos h1, h1]
      exact parse150 m W hW.hm
    · have h2 : (bs l).size < 4294967281 := by rw [bs_size]; omega
      rw [if_neg h1]
      by_cases h3 : l = s15
      · rw [if_pos h3, h3]
        exact parse15 m W hW.hm
      · rw [if_neg h3, dif_pos h2]
        exact (Classical.choose_spec (reads (bs l) m h2)).1 W hW.hm
  · intro s l hl hlen W hW
    obtain rfl := bs_of hl
    show Calls Tryz.prog 34 #[.string (bs l)] W fun e w' => e = .returned (.tuple #[.int .i64 (lxD m l).1, .int .i64 (lxD m l).2]) ∧ Below W.heap.size W w'
    unfold lxD
    by_cases h1 : l = sDay
    · rw [if_pos h1, h1]
      exact parseDay m W hW.hm
    · have h2 : (bs l).size < 4294967281 := by rw [bs_size]; omega
      rw [if_neg h1, dif_pos h2]
      exact (Classical.choose_spec (Classical.choose_spec (Days.parses (bs l) m h2))).1 W hW.hm
  · intro s l hl hlen W hW
    obtain rfl := bs_of hl
    exact good_any (bs l) _ rfl W hW.u8
end Go.Proofs.YtambpkkllgppdaaGreatDoor

namespace Go.Proofs.YtambpkkllgppdaaGreatDoor
open Go.RowKit
attribute [local go_sem high] run_tok_eql run_tok_neq tkeq_self run_dec_eql run_dec_neq

def awT : Bs := [120, 49, 32, 60, 61, 32, 49, 46, 53, 48, 32, 64, 34, 50, 48, 48, 48, 45, 48, 49, 45, 48, 49, 34, 46, 46]
def awL : List Tk := [⟨4, 0, [120, 49], 0, 0, 0⟩, ⟨5, 3, [60, 61], 0, 0, 0⟩, ⟨1, 6, [], 15, 1, 0⟩, ⟨3, 11, [], 0, 0, 730119⟩, ⟨5, 24, [46, 46], 0, 0, 0⟩]
def awS : List Bs := [[120, 49], [60, 61], [49, 46, 53], [64, 34, 50, 48, 48, 48, 45, 48, 49, 45, 48, 49, 34], [46, 46]]
theorem aw_toks (m : Int) : toksS (lxX m) awT = ⟨awL, 0, 0⟩ := by kernel_rfl
theorem aw_next (m : Int) : nextS (lxX m) [120, 49, 32] = ⟨⟨4, 0, [120, 49], 0, 0, 0⟩, 2, 0⟩ ∧ nextS (lxX m) [60, 61, 32] = ⟨⟨5, 0, [60, 61], 0, 0, 0⟩, 2, 0⟩ ∧ nextS (lxX m) [46, 46, 32] = ⟨⟨5, 0, [46, 46], 0, 0, 0⟩, 2, 0⟩ ∧ nextS (lxX m) [49, 46, 53, 32] = ⟨⟨1, 0, [], 15, 1, 0⟩, 3, 0⟩ ∧ nextS (lxX m) [64, 34, 50, 48, 48, 48, 45, 48, 49, 45, 48, 49, 34, 32] = ⟨⟨3, 0, [], 0, 0, 730119⟩, 13, 0⟩ := ⟨by kernel_rfl, by kernel_rfl, by kernel_rfl, by kernel_rfl, by kernel_rfl⟩
theorem aw_nx (m : Int) (l : Bs) (N : Nx) (h : nextS (lxX m) l = N) (hl : l ≠ []) (hs : l.length ≤ 1000) (W : World) (hW : OKW m W) :
    Calls Tryz.prog 17 #[.string (bs l)] W fun e w' => e = .returned (.tuple #[tokV N.t, .int .i64 (N.n : Int), .int .i64 N.e]) ∧ Below W.heap.size W w' := by
  rw [← h]
  refine next_any (lxX m) m (lx_ok m) (bs l) l rfl (by rw [bs_size]; omega) ?_ W hW
  rw [bs_size]
  cases l with
  | nil => exact absurd rfl hl
  | cons c r => simp
theorem dayText (w : World) (htab : Lib.TabIs Tryz.prog w "internal/strconv.uint64pow10" .u64 Lib.pow10Tab) :
    Calls Tryz.prog 47 #[.int .i64 730119] w fun e w' => e = .returned (.tuple #[.string ⟨#[50, 48, 48, 48, 45, 48, 49, 45, 48, 49]⟩, .int .i64 0]) ∧ Below w.heap.size w w' := Days.text_awake w htab
theorem aw_one (m : Int) (w : World) (hw : OKW m w) (k : Nat) (t : Tk) (u : Bs) (ht : awL[k]? = some t) (hu : awS[k]? = some u) (W : World) (hb : Below w.heap.size w W) :
    Calls Tryz.prog 24 #[.agg #[.int .i64 t.k, .int .i64 (t.a : Int), .string (bs t.t), .int .i64 t.n, .int .i64 t.s, .int .i64 t.m]] W fun e w' => e = .returned (.tuple #[.string (bs u), .bool true]) ∧ Below W.heap.size W w' := by
  obtain ⟨n1, n2, n3, n5, n4⟩ := aw_next m
  have hW := hw.step hb
  match k, ht, hu with
  | 0, ht, hu =>
    obtain rfl := Option.some.inj ht
    obtain rfl := Option.some.inj hu
    exact one_name 0 (bs [120, 49]) (bs [120, 49, 32]) W rfl (by decide) (Lib.hid (fun V hV => aw_nx m _ _ n1 (by decide) (by decide) V (hW.step hV)))
  | 1, ht, hu =>
    obtain rfl := Option.some.inj ht
    obtain rfl := Option.some.inj hu
    exact one_sign 3 (bs [60, 61]) (bs [60, 61, 32]) W rfl (by decide) (Lib.hid (fun V hV => aw_nx m _ _ n2 (by decide) (by decide) V (hW.step hV)))
  | 2, ht, hu =>
    obtain rfl := Option.some.inj ht
    obtain rfl := Option.some.inj hu
    exact one_num 6 15 1 (bs [49, 46, 53]) (bs [49, 46, 53, 32]) W rfl (by decide) (by decide) (Lib.hid (fun V hV => text_any 15 1 15 1 ⟨by decide, by decide⟩ rfl (by decide +kernel) (by decide +kernel) _ (by decide +kernel) V (hW.step hV).tab)) (Lib.hid (fun V hV => aw_nx m _ _ n5 (by decide) (by decide) V (hW.step hV)))
  | 3, ht, hu =>
    obtain rfl := Option.some.inj ht
    obtain rfl := Option.some.inj hu
    exact one_date 11 730119 (bs [64, 34, 50, 48, 48, 48, 45, 48, 49, 45, 48, 49, 34]) (bs [64, 34, 50, 48, 48, 48, 45, 48, 49, 45, 48, 49, 34, 32]) W rfl (by decide) ⟨#[50, 48, 48, 48, 45, 48, 49, 45, 48, 49]⟩ rfl (by decide) (Lib.hid (fun V hV => dayText V (hW.step hV).tab)) (Lib.hid (fun V hV => aw_nx m _ _ n4 (by decide) (by decide) V (hW.step hV)))
  | 4, ht, hu =>
    obtain rfl := Option.some.inj ht
    obtain rfl := Option.some.inj hu
    exact one_sign 24 (bs [46, 46]) (bs [46, 46, 32]) W rfl (by decide) (Lib.hid (fun V hV => aw_nx m _ _ n3 (by decide) (by decide) V (hW.step hV)))
  | k + 5, ht, hu => cases ht

set_option maxHeartbeats 4000000 in
set_option maxRecDepth 100000 in
theorem awake_lex (m : Int) (w : World) (hw : OKW m w) : Calls Tryz.prog 10 #[] w fun e w' => e = .returned (.bool true) ∧ Below w.heap.size w w' := by
  have HT := Lib.hid (fun W (hb : Below w.heap.size w W) => by
    have := tokens_any (lxX m) m (lx_ok m) (bs awT) awT rfl (by decide) W (hw.step hb)
    rw [aw_toks] at this
    exact this)
  have HJ := Lib.hid (fun W (hb : Below w.heap.size w W) A c hM => join_ok awL awS rfl (by decide) (by decide) A 5 c rfl W hM (Lib.hid (fun k t u ht hu V hV => aw_one m W (hw.step hb) k t u ht hu V hV)))
  have HW1 := Lib.hid (fun W => word_any (bs [120, 49]) [120, 49] rfl true (by decide +kernel) W)
  have HW2 := Lib.hid (fun W => word_any (bs [110, 111, 116]) [110, 111, 116] rfl false (by decide +kernel) W)
  clear hw
  go_enter Tryz.func10, Tryz.ntmps10
  go_wp2_with fail
  refine (HT.out _ (by (repeat' (first | (with_reducible exact Below.refl _ _) | (with_reducible assumption) | (with_reducible refine balloc ?_ _) | (with_reducible refine Below.drew ?_) | (with_reducible refine bset ?_ ?_ _) | (with_reducible refine bstep ?_ (by with_reducible assumption)) | (with_reducible refine bturn ?_ (by with_reducible assumption) ?_) | go_size)))).mono ?_
  rintro _ w1 ⟨⟨A, c, rfl, hM, _⟩, hb1⟩
  have HM := Lib.hid hM
  clear hM
  go_wp2_with fail
  refine (HJ.out _ (by (repeat' (first | (with_reducible exact Below.refl _ _) | (with_reducible assumption) | (with_reducible refine balloc ?_ _) | (with_reducible refine Below.drew ?_) | (with_reducible refine bset ?_ ?_ _) | (with_reducible refine bstep ?_ (by with_reducible assumption)) | (with_reducible refine bturn ?_ (by with_reducible assumption) ?_) | go_size))) A c HM.out).mono ?_
  rintro _ w2 ⟨rfl, hb2⟩
  obtain ⟨g, o, rfl, c0, c1, c2, c3, c4, c5⟩ := tm_get (HM.out.step hb2) (k := 1) (t := ⟨5, 3, [60, 61], 0, 0, 0⟩) rfl
  obtain ⟨g', o', e', d0, d1, d2, d3, d4, d5⟩ := tm_get (HM.out.step hb2) (k := 2) (t := ⟨1, 6, [], 15, 1, 0⟩) rfl
  cases e'
  clear c0 c1 c3 c4 c5 d0 d1 d2 d5
  have e1 : ((bs [60, 61]).toList == [60, 61]) = true := by rw [Lib.toList_data]; rfl
  have e2 : ((bs (joinB awS)).toList == [120, 49, 32, 60, 61, 32, 49, 46, 53, 32, 64, 34, 50, 48, 48, 48, 45, 48, 49, 45, 48, 49, 34, 32, 46, 46]) = true := by rw [Lib.toList_data]; decide +kernel
  go_wp2_with fail
  refine (HW1.out _).mono ?_
  rintro _ w3 ⟨rfl, hb3⟩
  go_wp2_with fail
  refine (HW2.out _).mono ?_
  rintro _ w4 ⟨rfl, hb4⟩
  go_wp2_with fail
  go_returns
  exact ⟨rfl, by (repeat' (first | (with_reducible exact Below.refl _ _) | (with_reducible assumption) | (with_reducible refine balloc ?_ _) | (with_reducible refine Below.drew ?_) | (with_reducible refine bset ?_ ?_ _) | (with_reducible refine bstep ?_ (by with_reducible assumption)) | (with_reducible refine bturn ?_ (by with_reducible assumption) ?_) | go_size))⟩
end Go.Proofs.YtambpkkllgppdaaGreatDoor

namespace Go.Proofs.YtambpkkllgppdaaGreatDoor
open Go.RowKit
attribute [local go_sem high] run_tok_eql run_tok_neq tkeq_self

set_option maxHeartbeats 8000000 in
set_option maxRecDepth 100000 in
theorem same_ok (at_ : Bool) (L M : List Tk) (n : Nat) (hL : L.length = n) (hM : M.length = n) (hn : n ≤ 4000000) (A B : Option Addr) (c d : Nat) (w : World) (hA : TM w A L) (hB : TM w B M)
    (heq : ∀ (i : Nat) (t u : Tk), L[i]? = some t → M[i]? = some u → t.k = u.k ∧ t.t = u.t ∧ t.n = u.n ∧ t.s = u.s ∧ t.m = u.m ∧ (at_ = true → t.a = u.a)) :
    Calls Tryz.prog 11 #[.slice A n c, .slice B n d, .bool at_] w fun e w' => e = .returned (.bool true) ∧ Below w.heap.size w w' := by
  have HA := Lib.hid hA
  have HB := Lib.hid hB
  have HE := Lib.hid heq
  clear hA hB heq
  go_enter Tryz.func11, Tryz.ntmps11
  go_wp2_with fail
  go_loopw [7, 8, 9] (fun i _ _ wr => ∃ k : Nat, k ≤ n ∧ i = .int .i64 (k : Int) ∧ Below w.heap.size w wr) (fun i _ _ _ => n - (intOf i).toNat)
  case atStart => exact ⟨0, by omega, rfl, by (repeat' (first | (with_reducible exact Below.refl _ _) | (with_reducible assumption) | (with_reducible refine balloc ?_ _) | (with_reducible refine Below.drew ?_) | (with_reducible refine bset ?_ ?_ _) | (with_reducible refine bstep ?_ (by with_reducible assumption)) | (with_reducible refine bturn ?_ (by with_reducible assumption) ?_) | go_size))⟩
  case round =>
    obtain ⟨k, hk, rfl, hbr⟩ := hrel
    have hsz := hbr.size
    by_cases hlt : k < n
    · obtain ⟨t, ht⟩ : ∃ t, L[k]? = some t := ⟨_, List.getElem?_eq_getElem (by omega)⟩
      obtain ⟨u, hu⟩ : ∃ u, M[k]? = some u := ⟨_, List.getElem?_eq_getElem (by omega)⟩
      obtain ⟨g, f, rfl, c0, c1, c2, c3, c4, c5⟩ := tm_get (fun i t ht => by
        obtain ⟨g, o, e, hc⟩ := HA.out i t ht
        exact ⟨g, o, e, fun j v hj => keep1 hbr (hc j v hj)⟩ : TM wr A L) ht
      obtain ⟨g', f', rfl, d0, d1, d2, d3, d4, d5⟩ := tm_get (fun i t ht => by
        obtain ⟨g, o, e, hc⟩ := HB.out i t ht
        exact ⟨g, o, e, fun j v hj => keep1 hbr (hc j v hj)⟩ : TM wr B M) hu
      obtain ⟨e1, e2, e3, e4, e5, e6⟩ := HE.out k t u ht hu
      obtain ⟨tk, ta, tt, tn, ts, tm⟩ := t
      obtain ⟨uk, ua, ut, un, us, um⟩ := u
      simp only at e1 e2 e3 e4 e5 e6 c0 c1 c2 c3 c4 c5 d0 d1 d2 d3 d4 d5
      subst e1 e2 e3 e4 e5
      obtain ⟨q, hq⟩ : ∃ q, bs tt = q := ⟨_, rfl⟩
      rw [hq] at c2 d2
      have E6 := Lib.hid e6
      clear e6 ht hu hq
      have hlg : g < wr.heap.size := block_lt_of_cell c0
      have hlg' : g' < wr.heap.size := block_lt_of_cell d0
      have hll := lts hlg
      have hll' := lts hlg'
      go_upto_region 6 with fail
      go_cut [8, 9] (fun p p' wx => ∃ x y : Nat, p = .pointer (some ⟨x, 0, none⟩) ∧ p' = .pointer (some ⟨y, 0, none⟩) ∧ x ≠ y ∧ w.heap.size ≤ x ∧ w.heap.size ≤ y ∧ Blk wx x 38 #[.int .i64 tk, .int .i64 (ta : Int), .string q, .int .i64 tn, .int .i64 ts, .int .i64 tm] ∧ Blk wx y 38 #[.int .i64 tk, .int .i64 (ua : Int), .string q, .int .i64 tn, .int .i64 ts, .int .i64 tm] ∧ Below w.heap.size w wx)
      case first =>
        go_region
        all_goals
          go_wp2
          go_meet
          case rel =>
            first
              | exact ⟨wr.heap.size, wr.heap.size + 1, rfl, rfl, by omega, by omega, by omega, ((Blk.new _ _ _).alloc _).drew, (Blk.new' _ _ _ (by simp)).drew, by (repeat' (first | (with_reducible exact Below.refl _ _) | (with_reducible assumption) | (with_reducible refine balloc ?_ _) | (with_reducible refine Below.drew ?_) | (with_reducible refine bset ?_ ?_ _) | (with_reducible refine bstep ?_ (by with_reducible assumption)) | (with_reducible refine bturn ?_ (by with_reducible assumption) ?_) | go_size))⟩
              | exact ⟨wr.heap.size + 1, wr.heap.size, rfl, rfl, by omega, by omega, by omega, (Blk.new' _ _ _ (by simp)).drew, ((Blk.new _ _ _).alloc _).drew, by (repeat' (first | (with_reducible exact Below.refl _ _) | (with_reducible assumption) | (with_reducible refine balloc ?_ _) | (with_reducible refine Below.drew ?_) | (with_reducible refine bset ?_ ?_ _) | (with_reducible refine bstep ?_ (by with_reducible assumption)) | (with_reducible refine bturn ?_ (by with_reducible assumption) ?_) | go_size))⟩
      case rest =>
        obtain ⟨x, y, rfl, rfl, hxy, hx, hy, KX, KY, hbc⟩ := hcut
        clear c0 c1 c2 c3 c4 c5 d0 d1 d2 d3 d4 d5 hlg hlg' hll hll'
        have hlx := KX.lt
        have hly := KY.lt
        cases at_ with
        | true =>
          obtain rfl := E6.out rfl
          have x_0 := KX.cell 0
          have x_1 := KX.cell 1
          have x_2 := KX.cell 2
          have x_3 := KX.cell 3
          have x_4 := KX.cell 4
          have x_5 := KX.cell 5
          simp at x_0 x_1 x_2 x_3 x_4 x_5
          have y_0 := KY.cell 0
          have y_1 := KY.cell 1
          have y_2 := KY.cell 2
          have y_3 := KY.cell 3
          have y_4 := KY.cell 4
          have y_5 := KY.cell 5
          simp at y_0 y_1 y_2 y_3 y_4 y_5
          go_wp2_with fail
          go_roundw
          case rel => exact ⟨k + 1, by omega, by go_num, hbc⟩
          case measure => simp [intOf]; omega
        | false =>
          have zx := KX.frozen 1
          have zy := KY.frozen 1
          have KX2 := (KX.set_ 1 (.int .i64 0)).far (p := ⟨y, 1, none⟩) (by simpa using hxy) (.int .i64 0)
          have KY2 := (KY.far (p := ⟨x, 1, none⟩) (by simpa using fun e => hxy e.symm) (.int .i64 0)).set_ 1 (.int .i64 0)
          have hb2 : Below w.heap.size w ((wc.setCell ⟨x, 1, none⟩ (.int .i64 0)).setCell ⟨y, 1, none⟩ (.int .i64 0)) := by (repeat' (first | (with_reducible exact Below.refl _ _) | (with_reducible assumption) | (with_reducible refine balloc ?_ _) | (with_reducible refine Below.drew ?_) | (with_reducible refine bset ?_ ?_ _) | (with_reducible refine bstep ?_ (by with_reducible assumption)) | (with_reducible refine bturn ?_ (by with_reducible assumption) ?_) | go_size))
          have zy2 : (wc.setCell ⟨x, 1, none⟩ (.int .i64 0)).frozen? ⟨y, 1, none⟩ = false := (KY.far (p := ⟨x, 1, none⟩) (by simpa using fun e => hxy e.symm) (.int .i64 0)).frozen 1
          have r1 : wc.cell? ⟨x, 1, none⟩ = some (.int .i64 (ta : Int)) := KX.cell 1
          have r2 : wc.cell? ⟨y, 1, none⟩ = some (.int .i64 (ua : Int)) := KY.cell 1
          have r3 : (wc.setCell ⟨x, 1, none⟩ (.int .i64 0)).cell? ⟨y, 1, none⟩ = some (.int .i64 (ua : Int)) := (KY.far (p := ⟨x, 1, none⟩) (by simpa using fun e => hxy e.symm) (.int .i64 0)).cell 1
          go_upto_region 9 with fail
          have x_0 : ((wc.setCell ⟨x, 1, none⟩ (.int .i64 0)).setCell ⟨y, 1, none⟩ (.int .i64 0)).cell? ⟨x, 0, none⟩ = some (.int .i64 tk) := KX2.cell 0
          have x_1 : ((wc.setCell ⟨x, 1, none⟩ (.int .i64 0)).setCell ⟨y, 1, none⟩ (.int .i64 0)).cell? ⟨x, 1, none⟩ = some (.int .i64 0) := KX2.cell 1
          have x_2 : ((wc.setCell ⟨x, 1, none⟩ (.int .i64 0)).setCell ⟨y, 1, none⟩ (.int .i64 0)).cell? ⟨x, 2, none⟩ = some (.string q) := KX2.cell 2
          have x_3 : ((wc.setCell ⟨x, 1, none⟩ (.int .i64 0)).setCell ⟨y, 1, none⟩ (.int .i64 0)).cell? ⟨x, 3, none⟩ = some (.int .i64 tn) := KX2.cell 3
          have x_4 : ((wc.setCell ⟨x, 1, none⟩ (.int .i64 0)).setCell ⟨y, 1, none⟩ (.int .i64 0)).cell? ⟨x, 4, none⟩ = some (.int .i64 ts) := KX2.cell 4
          have x_5 : ((wc.setCell ⟨x, 1, none⟩ (.int .i64 0)).setCell ⟨y, 1, none⟩ (.int .i64 0)).cell? ⟨x, 5, none⟩ = some (.int .i64 tm) := KX2.cell 5
          have y_0 : ((wc.setCell ⟨x, 1, none⟩ (.int .i64 0)).setCell ⟨y, 1, none⟩ (.int .i64 0)).cell? ⟨y, 0, none⟩ = some (.int .i64 tk) := KY2.cell 0
          have y_1 : ((wc.setCell ⟨x, 1, none⟩ (.int .i64 0)).setCell ⟨y, 1, none⟩ (.int .i64 0)).cell? ⟨y, 1, none⟩ = some (.int .i64 0) := KY2.cell 1
          have y_2 : ((wc.setCell ⟨x, 1, none⟩ (.int .i64 0)).setCell ⟨y, 1, none⟩ (.int .i64 0)).cell? ⟨y, 2, none⟩ = some (.string q) := KY2.cell 2
          have y_3 : ((wc.setCell ⟨x, 1, none⟩ (.int .i64 0)).setCell ⟨y, 1, none⟩ (.int .i64 0)).cell? ⟨y, 3, none⟩ = some (.int .i64 tn) := KY2.cell 3
          have y_4 : ((wc.setCell ⟨x, 1, none⟩ (.int .i64 0)).setCell ⟨y, 1, none⟩ (.int .i64 0)).cell? ⟨y, 4, none⟩ = some (.int .i64 ts) := KY2.cell 4
          have y_5 : ((wc.setCell ⟨x, 1, none⟩ (.int .i64 0)).setCell ⟨y, 1, none⟩ (.int .i64 0)).cell? ⟨y, 5, none⟩ = some (.int .i64 tm) := KY2.cell 5
          go_wp2_with fail
          go_roundw
          case rel => exact ⟨k + 1, by omega, by go_num, hb2⟩
          case measure => simp [intOf]; omega
    · obtain rfl : k = n := by omega
      go_wp2
      go_ret
      exact ⟨rfl, hbr⟩
end Go.Proofs.YtambpkkllgppdaaGreatDoor
