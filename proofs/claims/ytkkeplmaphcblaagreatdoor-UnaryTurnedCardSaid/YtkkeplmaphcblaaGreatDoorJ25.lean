/- The walk of unary.Text. -/
import Derived.Test.YtkkeplmaphcblaaGreatDoorJ23
import Derived.Test.YtkkeplmaphcblaaGreatDoorJ24
import Derived.Test.YtkkeplmaphcblaaGreatDoorJ17
namespace Go.Proofs.YtkkeplmaphcblaaGreatDoor
open Go.RowKit Go.Shelf

theorem vtxt_sz {v : Vl} (h : vSound v) : (bs (vtxt v)).size ≤ 1000 := by
  have := vtxt_len h
  rw [bs_size]
  omega
theorem uwrite_any (t : Tst) (ht : tSound t) (m : Int) (w : World) (hw : OKW m w) :
    Calls Tryz.prog 56 #[.agg (cellsTs t)] w fun e w' => e = .returned (.string (bs (ttxt t))) ∧ Below w.heap.size w w' := by
  obtain ⟨h1, h2, h3⟩ := ht
  have KT := Lib.hid fun (W : World) (hb : Below w.heap.size w W) => vtext_any t.lo h1 m W (hw.step hb)
  have KH := Lib.hid fun (W : World) (hb : Below w.heap.size w W) => vtext_any t.hi h2 m W (hw.step hb)
  obtain ⟨k, lo, hi, ol, oh⟩ := t
  simp only at h1 h2 h3 KT KH
  have z1 := vtxt_sz h1
  have z2 := vtxt_sz h2
  rcases h3 with ⟨rfl, _⟩ | ⟨h4, _⟩
  · have e : ttxt ⟨6, lo, hi, ol, oh⟩ = (if ol then 40 else 91) :: (vtxt lo ++ 46 :: 46 :: (vtxt hi ++ [if oh then 41 else 93])) := rfl
    have e2 : ∀ (a b : UInt8), ((((⟨#[a]⟩ : ByteArray) ++ bs (vtxt lo)) ++ ⟨#[46, 46]⟩) ++ bs (vtxt hi)) ++ ⟨#[b]⟩ = bs (a :: (vtxt lo ++ 46 :: 46 :: (vtxt hi ++ [b]))) := fun a b => by
      rw [show (⟨#[a]⟩ : ByteArray) = bs [a] from rfl, show (⟨#[b]⟩ : ByteArray) = bs [b] from rfl, show (⟨#[46, 46]⟩ : ByteArray) = bs [46, 46] from rfl, bs_app, bs_app, bs_app, bs_app]
      simp
    rw [e]
    cases ol <;> cases oh
    · have := wr_6ff lo.k lo.n lo.s lo.m hi.k hi.n hi.s hi.m (bs lo.t) (bs hi.t) w _ _ z1 z2 KT KH
      rw [e2] at this
      exact this
    · have := wr_6ft lo.k lo.n lo.s lo.m hi.k hi.n hi.s hi.m (bs lo.t) (bs hi.t) w _ _ z1 z2 KT KH
      rw [e2] at this
      exact this
    · have := wr_6tf lo.k lo.n lo.s lo.m hi.k hi.n hi.s hi.m (bs lo.t) (bs hi.t) w _ _ z1 z2 KT KH
      rw [e2] at this
      exact this
    · have := wr_6tt lo.k lo.n lo.s lo.m hi.k hi.n hi.s hi.m (bs lo.t) (bs hi.t) w _ _ z1 z2 KT KH
      rw [e2] at this
      exact this
  · have e2 : ∀ (g : Bs), (bs g) ++ bs (vtxt lo) = bs (g ++ vtxt lo) := fun g => bs_app g _
    rcases h4 with rfl | ⟨h4, _⟩
    · exact wr_1 lo.k lo.n lo.s lo.m hi.k hi.n hi.s hi.m (bs lo.t) (bs hi.t) w _ ol oh KT
    · rcases h4 with rfl | rfl | rfl | rfl
      · have := wr_2 lo.k lo.n lo.s lo.m hi.k hi.n hi.s hi.m (bs lo.t) (bs hi.t) w _ ol oh z1 KT
        rw [show (⟨#[60, 32]⟩ : ByteArray) = bs [60, 32] from rfl, e2] at this
        exact this
      · have := wr_3 lo.k lo.n lo.s lo.m hi.k hi.n hi.s hi.m (bs lo.t) (bs hi.t) w _ ol oh z1 KT
        rw [show (⟨#[60, 61, 32]⟩ : ByteArray) = bs [60, 61, 32] from rfl, e2] at this
        exact this
      · have := wr_4 lo.k lo.n lo.s lo.m hi.k hi.n hi.s hi.m (bs lo.t) (bs hi.t) w _ ol oh z1 KT
        rw [show (⟨#[62, 32]⟩ : ByteArray) = bs [62, 32] from rfl, e2] at this
        exact this
      · have := wr_5 lo.k lo.n lo.s lo.m hi.k hi.n hi.s hi.m (bs lo.t) (bs hi.t) w _ ol oh z1 KT
        rw [show (⟨#[62, 61, 32]⟩ : ByteArray) = bs [62, 61, 32] from rfl, e2] at this
        exact this
theorem join_ltxt : ∀ (l : List Tst), Lib.join (l.map ttxt) [44, 32] = ltxt l
  | [] => rfl
  | [t] => by
    show Lib.join [ttxt t] _ = _
    rw [Lib.join_one]
    rfl
  | t :: u :: r => by
    have := join_ltxt (u :: r)
    show Lib.join (ttxt t :: ttxt u :: r.map ttxt) _ = ttxt t ++ 44 :: 32 :: ltxt (u :: r)
    rw [← this]
    unfold Lib.join
    rw [List.intercalate_cons_cons]
    simp
noncomputable def clS (t : Tst) : List Value := [.string (bs (ttxt t))]
theorem clS_len (t : Tst) : (clS t).length = 1 := rfl
set_option maxHeartbeats 8000000 in
set_option maxRecDepth 100000 in
theorem utext_no (any no : Bool) (A : Option Addr) (n c : Nat) (w : World)
    (KS : Hid (∀ W, Below w.heap.size w W → Calls Tryz.prog 29 #[.agg #[.bool any, .bool no, .slice A n c]] W fun e w' => e = .returned (.bool false) ∧ Below W.heap.size W w')) :
    Calls Tryz.prog 24 #[.agg #[.bool any, .bool no, .slice A n c]] w fun e w' => e = .returned (.tuple #[.string ⟨#[]⟩, .int .i64 2]) ∧ Below w.heap.size w w' := by
  go_enter Tryz.func24, Tryz.ntmps24
  go_wp2_with fail
  refine (KS.out _ (by (repeat' (first | (with_reducible exact Below.refl _ _) | (with_reducible assumption) | (with_reducible refine balloc ?_ _) | (with_reducible refine Below.drew ?_) | (with_reducible refine bset ?_ ?_ _) | (with_reducible refine bstep ?_ (by with_reducible assumption)) | (with_reducible refine bturn ?_ (by with_reducible assumption) ?_) | go_size)))).mono ?_
  rintro e w1 ⟨rfl, hb1⟩
  go_wp2_with fail
  go_returns
  exact ⟨rfl, by (repeat' (first | (with_reducible exact Below.refl _ _) | (with_reducible assumption) | (with_reducible refine balloc ?_ _) | (with_reducible refine Below.drew ?_) | (with_reducible refine bset ?_ ?_ _) | (with_reducible refine bstep ?_ (by with_reducible assumption)) | (with_reducible refine bturn ?_ (by with_reducible assumption) ?_) | go_size))⟩
set_option maxHeartbeats 8000000 in
set_option maxRecDepth 100000 in
theorem utext_all (no : Bool) (A : Option Addr) (n c : Nat) (w : World)
    (KS : Hid (∀ W, Below w.heap.size w W → Calls Tryz.prog 29 #[.agg #[.bool true, .bool no, .slice A n c]] W fun e w' => e = .returned (.bool true) ∧ Below W.heap.size W w')) :
    Calls Tryz.prog 24 #[.agg #[.bool true, .bool no, .slice A n c]] w fun e w' => e = .returned (.tuple #[.string ⟨#[45]⟩, .int .i64 0]) ∧ Below w.heap.size w w' := by
  have k0 : Blk (w.alloc (.cells #[.bool true, .bool no, .slice A n c] 47)) w.heap.size 47 #[.bool true, .bool no, .slice A n c] := Blk.new _ _ _
  go_enter Tryz.func24, Tryz.ntmps24
  go_wp2_with fail
  refine (KS.out _ (by (repeat' (first | (with_reducible exact Below.refl _ _) | (with_reducible assumption) | (with_reducible refine balloc ?_ _) | (with_reducible refine Below.drew ?_) | (with_reducible refine bset ?_ ?_ _) | (with_reducible refine bstep ?_ (by with_reducible assumption)) | (with_reducible refine bturn ?_ (by with_reducible assumption) ?_) | go_size)))).mono ?_
  rintro e w1 ⟨rfl, hb1⟩
  have k1 := k0.step hb1
  have hb : Below w.heap.size w w1 := by (repeat' (first | (with_reducible exact Below.refl _ _) | (with_reducible assumption) | (with_reducible refine balloc ?_ _) | (with_reducible refine Below.drew ?_) | (with_reducible refine bset ?_ ?_ _) | (with_reducible refine bstep ?_ (by with_reducible assumption)) | (with_reducible refine bturn ?_ (by with_reducible assumption) ?_) | go_size))
  clear k0 hb1
  have hlu := k1.lt; have hllu := lts hlu; have qu0 := k1.cell 0; have qu1 := k1.cell 1; have qu2 := k1.cell 2; simp at qu0 qu1 qu2; have zu0 := k1.frozen 0; have zu1 := k1.frozen 1; have zu2 := k1.frozen 2; have Hk1 := Lib.hid k1; clear k1
  go_wp2_with fail
  go_returns
  exact ⟨rfl, by (repeat' (first | (with_reducible exact Below.refl _ _) | (with_reducible assumption) | (with_reducible refine balloc ?_ _) | (with_reducible refine Below.drew ?_) | (with_reducible refine bset ?_ ?_ _) | (with_reducible refine bstep ?_ (by with_reducible assumption)) | (with_reducible refine bturn ?_ (by with_reducible assumption) ?_) | go_size))⟩
set_option maxHeartbeats 16000000 in
set_option maxRecDepth 100000 in
theorem utext_list (no : Bool) (A : Option Addr) (L : List Tst) (c : Nat) (h1 : 1 ≤ L.length) (h8 : L.length ≤ 8) (S J : ByteArray) (w : World) (hM : RM clT 13 w A L)
    (hJ : S = if no then (⟨#[110, 111, 116, 40]⟩ ++ J) ++ ⟨#[41]⟩ else J) (hJs : J.size ≤ 20000)
    (KS : Hid (∀ W, Below w.heap.size w W → Calls Tryz.prog 29 #[.agg #[.bool false, .bool no, .slice A L.length c]] W fun e w' => e = .returned (.bool true) ∧ Below W.heap.size W w'))
    (KW : Hid (∀ t ∈ L, ∀ W, Below w.heap.size w W → Calls Tryz.prog 56 #[.agg (cellsTs t)] W fun e w' => e = .returned (.string (bs (ttxt t))) ∧ Below W.heap.size W w'))
    (KJ : Hid (∀ B o cp W, (∀ i t, L[i]? = some t → W.cell? ⟨B, o + i, none⟩ = some (.string (bs (ttxt t)))) → B < W.heap.size → L.length ≤ cp → Calls Tryz.prog 57 #[.slice (some ⟨B, o, none⟩) L.length cp, .string ⟨#[44, 32]⟩] W fun e w' => e = .returned (.string J) ∧ Below W.heap.size W w')) :
    Calls Tryz.prog 24 #[.agg #[.bool false, .bool no, .slice A L.length c]] w fun e w' => e = .returned (.tuple #[.string S, .int .i64 0]) ∧ Below w.heap.size w w' := by
  have k0 : Blk (w.alloc (.cells #[.bool false, .bool no, .slice A L.length c] 47)) w.heap.size 47 #[.bool false, .bool no, .slice A L.length c] := Blk.new _ _ _
  obtain ⟨i0, hi, hz0, hz1, hz2⟩ := info_parts' infoStr
  have HI := Lib.hid (And.intro hi (And.intro hz0 (And.intro hz1 hz2)))
  have HM := Lib.hid hM
  have HS := Lib.hid hJ
  clear hi hz0 hz1 hz2 hM hJ
  go_enter Tryz.func24, Tryz.ntmps24
  go_wp2_with fail
  refine (KS.out _ (by (repeat' (first | (with_reducible exact Below.refl _ _) | (with_reducible assumption) | (with_reducible refine balloc ?_ _) | (with_reducible refine Below.drew ?_) | (with_reducible refine bset ?_ ?_ _) | (with_reducible refine bstep ?_ (by with_reducible assumption)) | (with_reducible refine bturn ?_ (by with_reducible assumption) ?_) | go_size)))).mono ?_
  rintro e w1 ⟨rfl, hb1⟩
  have k1 := k0.step hb1
  have hb : Below w.heap.size w w1 := by (repeat' (first | (with_reducible exact Below.refl _ _) | (with_reducible assumption) | (with_reducible refine balloc ?_ _) | (with_reducible refine Below.drew ?_) | (with_reducible refine bset ?_ ?_ _) | (with_reducible refine bstep ?_ (by with_reducible assumption)) | (with_reducible refine bturn ?_ (by with_reducible assumption) ?_) | go_size))
  have hz := hb1.size
  simp only [World.size_alloc] at hz
  have K1 := Lib.hid k1
  clear k0 hb1
  have hlu := k1.lt; have hllu := lts hlu; have qu0 := k1.cell 0; have qu1 := k1.cell 1; have qu2 := k1.cell 2; simp at qu0 qu1 qu2; have zu0 := k1.frozen 0; have zu1 := k1.frozen 1; have zu2 := k1.frozen 2; have Hk1 := Lib.hid k1; clear k1
  go_wp2_with fail
  go_loopw [16, 4] (fun i out wr => ∃ k : Nat, k ≤ L.length ∧ i = .int .i64 (k : Int) ∧ wr.ownsRow (w.heap.size + 1) 9 1 out k (rowL clS (L.take k)) ∧ Blk wr w.heap.size 47 #[.bool false, .bool no, .slice A L.length c] ∧ Below w.heap.size w wr) (fun i _ _ => L.length - (intOf i).toNat)
  case atStart => exact ⟨0, by omega, rfl, World.ownsRow_nil _ _ _ _, K1.out, hb⟩
  case round =>
    obtain ⟨k, hk, rfl, hown, kb, hbr⟩ := hrel
    obtain ⟨B, cp, hv, hRM, hlc, hcm, hbase⟩ := own_rm clS_len hown (by rw [List.length_take]; omega)
    subst hv
    by_cases hlt : k < L.length
    · obtain ⟨t, ht⟩ : ∃ t, L[k]? = some t := ⟨L[k], List.getElem?_eq_getElem hlt⟩
      have hki : (k : Int) < (L.length : Int) := by omega
      have KW1 := Lib.hid (KW.out t (List.mem_of_getElem? ht))
      have htk : L.take (k + 1) = L.take k ++ [t] := by rw [List.take_add_one, ht]; rfl
      obtain ⟨q, hq⟩ : ∃ q, bs (ttxt t) = q := ⟨_, rfl⟩
      have hcN : rowL clS (L.take k) ++ [.string q] = rowL clS (L.take (k + 1)) := by
        rw [htk, rowL_app, rowL_one, ← hq]
        rfl
      have HCN := Lib.hid hcN
      rw [hq] at KW1
      obtain ⟨g, o, rfl, HC⟩ := rmt_get HM.out ht
      obtain ⟨tk, ⟨lk, ln, ls, lt, lm⟩, ⟨xk, xn, xs, xt, xm⟩, ol, oh⟩ := t
      simp only at HC
      obtain ⟨c0, c1, c2, c3, c4, c5, c6, c7, c8, c9, c10, c11, c12⟩ := HC
      replace c0 := keep1 hbr c0
      replace c1 := keep1 hbr c1
      replace c2 := keep1 hbr c2
      replace c3 := keep1 hbr c3
      replace c4 := keep1 hbr c4
      replace c5 := keep1 hbr c5
      replace c6 := keep1 hbr c6
      replace c7 := keep1 hbr c7
      replace c8 := keep1 hbr c8
      replace c9 := keep1 hbr c9
      replace c10 := keep1 hbr c10
      replace c11 := keep1 hbr c11
      replace c12 := keep1 hbr c12
      have HO := Lib.hid hown
      have HB := Lib.hid kb
      have hzr := hbr.size
      have hk8 : k ≤ 8 := by omega
      clear ht htk hcN hown hRM hbase hlc hcm kb hq hlt
      go_wp2_with fail
      refine (KW1.out _ (by (repeat' (first | (with_reducible exact Below.refl _ _) | (with_reducible assumption) | (with_reducible refine balloc ?_ _) | (with_reducible refine Below.drew ?_) | (with_reducible refine bset ?_ ?_ _) | (with_reducible refine bstep ?_ (by with_reducible assumption)) | (with_reducible refine bturn ?_ (by with_reducible assumption) ?_) | go_size)))).mono ?_
      rintro e w2 ⟨rfl, hb2⟩
      have ho2 := Lib.hid (own_below (HO.out.alloc _) hb2)
      have kb2 := Lib.hid ((HB.out.alloc (.cells #[.int .i64 tk, .int .i64 lk, .int .i64 ln, .int .i64 ls, .string (bs lt), .int .i64 lm, .int .i64 xk, .int .i64 xn, .int .i64 xs, .string (bs xt), .int .i64 xm, .bool ol, .bool oh] 82)).step hb2)
      have hb02 : Below w.heap.size w w2 := by (repeat' (first | (with_reducible exact Below.refl _ _) | (with_reducible assumption) | (with_reducible refine balloc ?_ _) | (with_reducible refine Below.drew ?_) | (with_reducible refine bset ?_ ?_ _) | (with_reducible refine bstep ?_ (by with_reducible assumption)) | (with_reducible refine bturn ?_ (by with_reducible assumption) ?_) | go_size))
      have hz2 := hb02.size
      clear c0 c1 c2 c3 c4 c5 c6 c7 c8 c9 c10 c11 c12 HO HB hb2
      obtain ⟨hi, hz0, hz1, hz2'⟩ := HI.out
      go_wp2_with (at_builtin; refine wpList_append_own _ rfl _ _ 29 rfl (w.heap.size + 1) 9 i0 (.string ⟨#[]⟩) 1 16 Tryz.underlying29 hi hz0 hz1 hz2' rfl (by decide) _ _ _ rfl (ho2.out.alloc _) ⟨w2.heap.size, 0, none⟩ 1 1 [.string q] rfl rfl ?c1 ?c2 ?c3 ?c4 ?c5 ?_)
      case c1 =>
        intro j u hj
        match j, hj with
        | 0, hj => simp at hj; subst hj; simp [Addr.add]
        | j + 1, hj => simp at hj
      case c2 =>
        intro u hu
        simp only [List.mem_cons, List.not_mem_nil, or_false] at hu
        subst hu
        rfl
      case c3 => unfold maxLen; omega
      case c4 => omega
      case c5 => simp; omega
      intro v' w5 hown' hgrow _
      rw [HCN.out] at hown'
      have hbl : ∀ g, (Value.slice B k cp).ownBlock = some g → w.heap.size + 1 ≤ g := fun g hg => (ho2.out.lt g hg).1
      have kb5 : Blk w5 w.heap.size 47 #[.bool false, .bool no, .slice (some ⟨g, o, none⟩) L.length c] := (kb2.out.alloc _).grown hgrow (fun e => by have := hbl _ e.symm; omega)
      have hb05 : Below w.heap.size w w5 := Below.grown (hb02.alloc (by omega) _) hgrow (by simp only [World.size_alloc]; omega) (fun g hg => by have := hbl g hg; omega)
      have HO5 := Lib.hid hown'
      clear hown' hgrow hi hz0 hz1 hz2' ho2 kb2 hbl
      go_wp2_with fail
      go_roundw
      case rel => exact ⟨k + 1, by omega, by go_num, HO5.out, kb5, hb05⟩
      case measure => simp [intOf]; omega
    · obtain rfl : k = L.length := by omega
      have hL0 : 0 < L.length := by omega
      have hget : L[0]? = some L[0] := List.getElem?_eq_getElem hL0
      obtain ⟨g, o, rfl, _⟩ := hRM 0 L[0] (by rw [List.take_length]; exact hget)
      have hcells : ∀ i t, L[i]? = some t → wr.cell? ⟨g, o + i, none⟩ = some (.string (bs (ttxt t))) := fun i t ht => by
        obtain ⟨g2, o2, e, hc⟩ := hRM i t (by rw [List.take_length]; exact ht)
        injection e with e
        injection e with e1 e2
        subst e1 e2
        have := hc 0 _ rfl
        simpa using this
      have hlt2 := block_lt_of_cell (hcells 0 _ hget)
      simp only at hlt2
      have KJ1 := Lib.hid (KJ.out g o cp wr hcells hlt2 hlc)
      have HB := Lib.hid kb
      clear hRM hcells hlt2 hlc hget hown hcm hbase kb hlt
      go_wp2_with fail
      refine KJ1.out.mono ?_
      rintro e w3 ⟨rfl, hb3⟩
      have kb3 := HB.out.step hb3
      have f1 : 4 + J.size ≤ 9223372036854775807 := by omega
      have f2 : ((⟨#[110, 111, 116, 40]⟩ : ByteArray) ++ J).size + 1 ≤ 9223372036854775807 := by rw [ByteArray.size_append]; show 4 + J.size + 1 ≤ _; omega
      have f3 : 4 + J.size + 1 ≤ 9223372036854775807 := by omega
      have hlu := kb3.lt; have hllu := lts hlu; have qu0 := kb3.cell 0; have qu1 := kb3.cell 1; have qu2 := kb3.cell 2; simp at qu0 qu1 qu2; have zu0 := kb3.frozen 0; have zu1 := kb3.frozen 1; have zu2 := kb3.frozen 2; have Hkb3 := Lib.hid kb3; clear kb3
      cases no
      all_goals
        go_wp2_with fail
        go_returns
        exact ⟨by rw [HS.out]; rfl, by (repeat' (first | (with_reducible exact Below.refl _ _) | (with_reducible assumption) | (with_reducible refine balloc ?_ _) | (with_reducible refine Below.drew ?_) | (with_reducible refine bset ?_ ?_ _) | (with_reducible refine bstep ?_ (by with_reducible assumption)) | (with_reducible refine bturn ?_ (by with_reducible assumption) ?_) | go_size))⟩
open Classical in
/-- What unary.Text writes. -/
noncomputable def utx (t : Tsts) : Bs × Int := if tsSound t then (utxt t, 0) else ([], 2)
open Classical in
theorem utext_any (t : Tsts) (A : Option Addr) (c : Nat) (m : Int) (w : World) (hw : OKW m w) (hM : RM clT 13 w A t.l) (hok : ∀ u ∈ t.l, TOk u) :
    Calls Tryz.prog 24 #[.agg #[.bool t.any, .bool t.no, .slice A t.l.length c]] w fun e w' => e = .returned (.tuple #[.string (bs (utx t).1), .int .i64 (utx t).2]) ∧ Below w.heap.size w w' := by
  have KS := Lib.hid fun (W : World) (hb : Below w.heap.size w W) => usound_any t A c m W (hw.step hb) (hM.step hb) hok
  unfold utx
  by_cases hs : tsSound t
  · rw [if_pos hs]
    rw [decide_eq_true hs] at KS
    have hs0 := hs
    unfold tsSound at hs
    cases ha : t.any with
    | true =>
      rw [ha] at KS
      have e : utxt t = [45] := by unfold utxt; rw [if_pos ha]
      rw [e]
      exact utext_all t.no A t.l.length c w KS
    | false =>
      rw [ha] at KS
      rw [if_neg (by rw [ha]; simp)] at hs
      obtain ⟨h1, h8, hall⟩ := hs
      have hlen := ltxt_len hall
      have e : bs (utxt t) = if t.no then (⟨#[110, 111, 116, 40]⟩ ++ bs (ltxt t.l)) ++ ⟨#[41]⟩ else bs (ltxt t.l) := by
        unfold utxt
        rw [if_neg (by rw [ha]; simp)]
        cases t.no with
        | true =>
          rw [if_pos rfl, if_pos rfl, show (⟨#[110, 111, 116, 40]⟩ : ByteArray) = bs [110, 111, 116, 40] from rfl, show (⟨#[41]⟩ : ByteArray) = bs [41] from rfl, bs_app, bs_app]
          rfl
        | false => rfl
      refine utext_list t.no A t.l c h1 h8 _ (bs (ltxt t.l)) w hM e (by rw [bs_size]; omega) KS (Lib.hid fun u hu W hb => uwrite_any u (hall u hu) m W (hw.step hb)) (Lib.hid fun B o cp W hc hB hcp => ?_)
      have hj := Tryz.strings_Join B o cp (t.l.map fun u => bs (ttxt u)) ⟨#[44, 32]⟩ W (fun j x hx => by
        rw [List.getElem?_map, Option.map_eq_some_iff] at hx
        obtain ⟨u, hu, rfl⟩ := hx
        exact hc j u hu) hB (by rw [List.length_map]; omega) (by rw [List.length_map]; exact hcp) (by
          rw [List.map_map]
          have : (fun x : ByteArray => x.data.toList) ∘ (fun u => bs (ttxt u)) = ttxt := rfl
          rw [this]
          show (Lib.join _ [44, 32]).length ≤ _
          rw [join_ltxt]
          omega)
      rw [List.length_map, List.map_map] at hj
      have e2 : (fun x : ByteArray => x.data.toList) ∘ (fun u => bs (ttxt u)) = ttxt := rfl
      rw [e2] at hj
      have e3 : (⟨(Lib.join (t.l.map ttxt) (⟨#[44, 32]⟩ : ByteArray).data.toList).toArray⟩ : ByteArray) = bs (ltxt t.l) := by
        show bs (Lib.join (t.l.map ttxt) [44, 32]) = _
        rw [join_ltxt]
      rw [e3] at hj
      exact hj
  · rw [if_neg hs]
    rw [decide_eq_false hs] at KS
    exact utext_no t.any t.no A t.l.length c w KS
end Go.Proofs.YtkkeplmaphcblaaGreatDoor
