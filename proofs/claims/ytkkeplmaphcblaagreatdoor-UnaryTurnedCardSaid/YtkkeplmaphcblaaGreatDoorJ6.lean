/- Reading a day's text: both sides read alike; and the walk of DaysTexts. What taking a text apart leans on, at this program: numbers, days, signs. What every law of package lex calls: awake. The walk of soffitlaw07.same at tokens that are the same. The walk of LexParts. The law LexParts at every two texts. The walks of sync.Once, done for the first time: its parts. (Type numbers of this seat: 312 is a pointer to internal/sync.Mutex.) The walk of strings.Replacer's build, for the two pairs that quoting asks. The walks of strings.NewReplacer and of Replacer.buildOnce, for the two pairs that quoting asks. What stands for a text's bytes between quotes, plainly: a backslash ahead of each quote and each backslash. No program in sight. The walk of byteStringReplacer.Replace, for the two pairs that quoting asks. The walk of Replacer.Replace, for the two pairs that quoting asks. The walk of lex.one at any token, in its ways. The walk of lex.one at any token, at a text. What the bound of the second form gives: lemmas on bulk (after the seat's own page for such statements). Tokens that came in as an argument: how they read, and what a bound on all that is read says of each. same, of the package soffitlaw07, at tokens of any place. The walk of lex.Join at any tokens. Two contracts of one call at one world give the same answer. lex.one at any token, at this program. Tokens that are written are read as they were, plainly. -/
import Derived.Test.YtkkeplmaphcblaaGreatDoorJ5
import Derived.Deep.DeepCutAuto
import Derived.Test.YtkkeplmaphcblaaGreatDoorJ4
import Derived.Defers
import Derived.Laws.Pointers
import Derived.Laws.LoneSync
import Derived.RegionTactic
import Derived.RegionCalls
import Derived.Laws.Tables
import Derived.Lib.SliceRun
import Derived.Laws.MakeOwn
import Derived.Laws.IdiomStrings
import Derived.OwnWalk
import Derived.BigRegion
import Derived.Laws.CopyRow
import Derived.Laws.CopyOwn
import Derived.Test.YtkkeplmaphcblaaGreatDoorJ1
import Derived.Test.YtkkeplmaphcblaaGreatDoorJ3
import Derived.Deep.QuietTactic
import Derived.BigQuiet
import Derived.Test.YtkkeplmaphcblaaGreatDoorRows
import Derived.Calls
namespace Go.Proofs.YtkkeplmaphcblaaGreatDoor.Days
open Go.RowKit
open Go.Lib hiding intOf

def joinS : List (List UInt8) → List UInt8
  | [] => []
  | [a] => a
  | a :: b :: r => a ++ 45 :: joinS (b :: r)
theorem splitK_cons (k : Nat) (l : List UInt8) : ∃ a r, splitK [45] 0 k l = a :: r := by
  cases k with
  | zero => exact ⟨l, [], rfl⟩
  | succ k =>
    unfold splitK
    split
    · exact ⟨_, _, rfl⟩
    · exact ⟨_, _, rfl⟩
theorem join_split : ∀ (k : Nat) (l : List UInt8), joinS (splitK [45] 0 k l) = l
  | 0, _ => rfl
  | k + 1, l => by
    unfold splitK
    split
    · rfl
    · rename_i h
      rcases index_spec l [45] with ⟨h1, _⟩ | ⟨i, h1, h2, h3, _⟩
      · rw [h1] at h; exact absurd rfl h
      · rw [h1]
        obtain ⟨a, r, hs⟩ := splitK_cons k (l.drop (i + 1))
        have hh := occAt_head (c := 45) (t := []) rfl h3
        have hlt : i < l.length := by
          rw [List.getElem?_eq_some_iff] at hh
          exact hh.1
        show joinS (l.take (i + 0) :: splitK [45] 0 k (l.drop (i + 1))) = l
        rw [hs]
        show l.take (i + 0) ++ 45 :: joinS (a :: r) = l
        rw [← hs, join_split k, Nat.add_zero]
        have hg : l[i] = 45 := by
          rw [List.getElem?_eq_getElem hlt] at hh
          exact Option.some.inj hh
        rw [← hg, List.getElem_cons_drop, List.take_append_drop]

theorem ten {l : List UInt8} (h : l.length = 10) : ∃ x0 x1 x2 x3 x4 x5 x6 x7 x8 x9, l = [x0, x1, x2, x3, x4, x5, x6, x7, x8, x9] := by
  match l, h with
  | [x0, x1, x2, x3, x4, x5, x6, x7, x8, x9], _ => exact ⟨x0, x1, x2, x3, x4, x5, x6, x7, x8, x9, rfl⟩
theorem four {l : List UInt8} (h : l.length = 4) : ∃ x0 x1 x2 x3, l = [x0, x1, x2, x3] := by
  match l, h with
  | [x0, x1, x2, x3], _ => exact ⟨x0, x1, x2, x3, rfl⟩
theorem two {l : List UInt8} (h : l.length = 2) : ∃ x0 x1, l = [x0, x1] := by
  match l, h with
  | [x0, x1], _ => exact ⟨x0, x1, rfl⟩

theorem digitVal_of {b : UInt8} (h : isD b = true) : digitVal b = some (b.toNat - 48) := by
  unfold digitVal
  rw [if_pos (of_decide_eq_true h)]
theorem allDig_iff {l : List UInt8} : allDig l = true ↔ ∀ b ∈ l, isD b = true := List.all_eq_true

/-- What a well-formed text splits into. -/
theorem wf_split {s : ByteArray} (h : wf s) : ∃ a b c : ByteArray, countB s ⟨#[45]⟩ = 2 ∧ splitB ⟨#[45]⟩ 0 2 s = [a, b, c] ∧ a.size ≤ 4294967281 ∧ b.size ≤ 4294967281 ∧ c.size ≤ 4294967281 ∧ parseR a b c = dayR (fold10 s 0 4) (fold10 s 5 2) (fold10 s 8 2) := by
  obtain ⟨hs, hj⟩ := h
  have hlen : s.data.toList.length = 10 := by simpa using hs
  obtain ⟨x0, x1, x2, x3, x4, x5, x6, x7, x8, x9, hl⟩ := ten hlen
  have e : ∀ j, byteAt s j = [x0, x1, x2, x3, x4, x5, x6, x7, x8, x9].getD j 0 := fun j => by unfold byteAt; rw [hl]
  have h0 : isD x0 = true := by have := hj 0 (by decide); rw [e] at this; exact this
  have h1 : isD x1 = true := by have := hj 1 (by decide); rw [e] at this; exact this
  have h2 : isD x2 = true := by have := hj 2 (by decide); rw [e] at this; exact this
  have h3 : isD x3 = true := by have := hj 3 (by decide); rw [e] at this; exact this
  have h4 : x4 = 45 := by have := hj 4 (by decide); rw [e] at this; exact beq_iff_eq.1 this
  have h5 : isD x5 = true := by have := hj 5 (by decide); rw [e] at this; exact this
  have h6 : isD x6 = true := by have := hj 6 (by decide); rw [e] at this; exact this
  have h7 : x7 = 45 := by have := hj 7 (by decide); rw [e] at this; exact beq_iff_eq.1 this
  have h8 : isD x8 = true := by have := hj 8 (by decide); rw [e] at this; exact this
  have h9 : isD x9 = true := by have := hj 9 (by decide); rw [e] at this; exact this
  subst h4; subst h7
  have da : allDig [x0, x1, x2, x3] = true := allDig_iff.2 (by simp [h0, h1, h2, h3])
  have db : allDig [x5, x6] = true := allDig_iff.2 (by simp [h5, h6])
  have dc : allDig [x8, x9] = true := allDig_iff.2 (by simp [h8, h9])
  obtain ⟨c1, c2⟩ := split3 (a := [x0, x1, x2, x3]) (b := [x5, x6]) (c := [x8, x9]) (allDig_no45 da) (allDig_no45 db) (allDig_no45 dc)
  refine ⟨⟨#[x0, x1, x2, x3]⟩, ⟨#[x5, x6]⟩, ⟨#[x8, x9]⟩, ?_, ?_, ?_, ?_, ?_, ?_⟩
  · show count s.data.toList [45] = 2
    rw [hl]; exact c1
  · exact splitB_of (s := s) (L := [[x0, x1, x2, x3], [x5, x6], [x8, x9]]) (by rw [hl]; exact c2)
  · show (4 : Nat) ≤ _; omega
  · show (2 : Nat) ≤ _; omega
  · show (2 : Nat) ≤ _; omega
  · have ga : goodP 4 ⟨#[x0, x1, x2, x3]⟩ = true := by unfold goodP; rw [Bool.and_eq_true]; exact ⟨rfl, da⟩
    have gb : goodP 2 ⟨#[x5, x6]⟩ = true := by unfold goodP; rw [Bool.and_eq_true]; exact ⟨rfl, db⟩
    have gc : goodP 2 ⟨#[x8, x9]⟩ = true := by unfold goodP; rw [Bool.and_eq_true]; exact ⟨rfl, dc⟩
    have pa : pv ⟨#[x0, x1, x2, x3]⟩ = fold10 s 0 4 := by
      unfold pv
      show (((decFrom 0 [x0, x1, x2, x3]).getD 0 : Nat) : Int) = _
      simp [decFrom, digitVal_of h0, digitVal_of h1, digitVal_of h2, digitVal_of h3, fold10, e]
    have pb : pv ⟨#[x5, x6]⟩ = fold10 s 5 2 := by
      unfold pv
      show (((decFrom 0 [x5, x6]).getD 0 : Nat) : Int) = _
      simp [decFrom, digitVal_of h5, digitVal_of h6, fold10, e]
    have pc : pv ⟨#[x8, x9]⟩ = fold10 s 8 2 := by
      unfold pv
      show (((decFrom 0 [x8, x9]).getD 0 : Nat) : Int) = _
      simp [decFrom, digitVal_of h8, digitVal_of h9, fold10, e]
    unfold parseR
    simp only [ga, gb, gc, Bool.and_self, if_true]
    rw [pa, pb, pc]

theorem split_wf {s a b c : ByteArray} (hp : splitB ⟨#[45]⟩ 0 2 s = [a, b, c]) (ga : goodP 4 a = true) (gb : goodP 2 b = true) (gc : goodP 2 c = true) : wf s := by
  have h1 := splitB_data ⟨#[45]⟩ 0 2 s
  rw [show (⟨#[45]⟩ : ByteArray).data.toList = [45] from rfl, hp] at h1
  have h2 := join_split 2 s.data.toList
  rw [← h1] at h2
  have h3 : a.data.toList ++ 45 :: (b.data.toList ++ 45 :: c.data.toList) = s.data.toList := h2
  unfold goodP at ga gb gc
  rw [Bool.and_eq_true] at ga gb gc
  obtain ⟨x0, x1, x2, x3, ha⟩ := four (l := a.data.toList) (by have := beq_iff_eq.1 ga.1; simpa using this)
  obtain ⟨x5, x6, hb⟩ := two (l := b.data.toList) (by have := beq_iff_eq.1 gb.1; simpa using this)
  obtain ⟨x8, x9, hc⟩ := two (l := c.data.toList) (by have := beq_iff_eq.1 gc.1; simpa using this)
  rw [ha, hb, hc] at h3
  have da := allDig_iff.1 (ha ▸ ga.2)
  have db := allDig_iff.1 (hb ▸ gb.2)
  have dc := allDig_iff.1 (hc ▸ gc.2)
  have hl : s.data.toList = [x0, x1, x2, x3, 45, x5, x6, 45, x8, x9] := h3.symm
  have e : ∀ j, byteAt s j = [x0, x1, x2, x3, 45, x5, x6, 45, x8, x9].getD j 0 := fun j => by unfold byteAt; rw [hl]
  refine ⟨?_, fun j hj => ?_⟩
  · have : s.data.toList.length = 10 := by rw [hl]; rfl
    simpa using this
  · rw [e]
    match j, hj with
    | 0, _ => exact da x0 (by simp)
    | 1, _ => exact da x1 (by simp)
    | 2, _ => exact da x2 (by simp)
    | 3, _ => exact da x3 (by simp)
    | 4, _ => rfl
    | 5, _ => exact db x5 (by simp)
    | 6, _ => exact db x6 (by simp)
    | 7, _ => rfl
    | 8, _ => exact dc x8 (by simp)
    | 9, _ => exact dc x9 (by simp)
    | n + 10, h => omega

theorem splitB_three {s : ByteArray} (h : countB s ⟨#[45]⟩ = 2) : ∃ a b c, splitB ⟨#[45]⟩ 0 2 s = [a, b, c] ∧ a.size ≤ s.size ∧ b.size ≤ s.size ∧ c.size ≤ s.size := by
  have hl := splitB_all ⟨#[45]⟩ (by decide) 0 2 s h
  match hq : splitB ⟨#[45]⟩ 0 2 s, hl with
  | [a, b, c], _ =>
    refine ⟨a, b, c, rfl, ?_⟩
    have h1 := splitB_data ⟨#[45]⟩ 0 2 s
    rw [show (⟨#[45]⟩ : ByteArray).data.toList = [45] from rfl, hq] at h1
    have h2 := join_split 2 s.data.toList
    rw [← h1] at h2
    have h3 : a.data.toList ++ 45 :: (b.data.toList ++ 45 :: c.data.toList) = s.data.toList := h2
    have h4 := congrArg List.length h3
    simp at h4
    simp only [ByteArray.size] at *
    omega

theorem split_any (s : ByteArray) (m : Int) (n : Nat) (hs : s.size < 4294967281) (hn : countB s ⟨#[45]⟩ + 1 = n) (w : World) (hm : w.cell? ⟨1, 0, none⟩ = some (.int .i64 m)) :
    Calls Tryz.prog 202 #[.string s, .string ⟨#[45]⟩] w fun e w' => e = .returned (.slice (some ⟨w.heap.size, 0, none⟩) n n) ∧ Below w.heap.size w w' := by
  refine (Tryz.strings_Split s ⟨#[45]⟩ m w hs hm (by decide)).mono ?_
  rintro e w' ⟨rfl, rfl⟩
  rw [hn]
  exact ⟨rfl, by (repeat' (first | (with_reducible exact Below.refl _ _) | (with_reducible assumption) | (with_reducible refine balloc ?_ _) | (with_reducible refine Below.drew ?_) | (with_reducible refine bset ?_ ?_ _) | (with_reducible refine bstep ?_ (by with_reducible assumption)) | (with_reducible refine bturn ?_ (by with_reducible assumption) ?_) | go_size))⟩

set_option maxHeartbeats 1000000 in
theorem parse_few (s : ByteArray) (m : Int) (n : Nat) (hs : s.size < 4294967281) (hn : countB s ⟨#[45]⟩ + 1 = n) (hn3 : ¬ n = 3) (w : World) (hm : w.cell? ⟨1, 0, none⟩ = some (.int .i64 m)) :
    Calls Tryz.prog 165 #[.string s] w fun e w' => e = .returned (.tuple #[.int .i64 0, .int .i64 5]) ∧ Below w.heap.size w w' := by
  have HS := Lib.hid (split_any s m n hs hn)
  have hn3' : ((n : Int) == 3) = false := by simp; omega
  clear hs hn
  go_enter Tryz.func165, Tryz.ntmps165
  go_wp2_with fail
  refine (HS.out _ hm).mono ?_
  rintro e w1 ⟨rfl, hb⟩
  clear hm
  go_wp2
  go_returns
  exact ⟨rfl, by (repeat' (first | (with_reducible exact Below.refl _ _) | (with_reducible assumption) | (with_reducible refine balloc ?_ _) | (with_reducible refine Below.drew ?_) | (with_reducible refine bset ?_ ?_ _) | (with_reducible refine bstep ?_ (by with_reducible assumption)) | (with_reducible refine bturn ?_ (by with_reducible assumption) ?_) | go_size))⟩

/-- Both sides read a text alike. -/
theorem parses (s : ByteArray) (m : Int) (hs : s.size < 4294967281) : ∃ n e : Int, (∀ w : World, w.cell? ⟨1, 0, none⟩ = some (.int .i64 m) → Calls Tryz.prog 165 #[.string s] w fun x w' => x = .returned (.tuple #[.int .i64 n, .int .i64 e]) ∧ Below w.heap.size w w') ∧ (∀ _ : World, True) := by
  by_cases hw : wf s
  · obtain ⟨a, b, c, h1, h2, h3, h4, h5, h6⟩ := wf_split hw
    refine ⟨_, _, fun w hm => parse_parts s a b c m hs h3 h4 h5 h1 h2 w hm, fun w => ?_⟩
    exact trivial
  · have hr : ∀ _ : World, True := fun _ => trivial
    refine ⟨0, 5, fun w hm => ?_, hr⟩
    by_cases h2 : countB s ⟨#[45]⟩ = 2
    · obtain ⟨a, b, c, hp, l1, l2, l3⟩ := splitB_three h2
      have hbad : parseR a b c = ⟨0, 5⟩ := by
        unfold parseR
        rw [if_neg]
        intro hg
        simp only [Bool.and_eq_true] at hg
        exact hw (split_wf hp hg.1.1 hg.1.2 hg.2)
      have := parse_parts s a b c m hs (by omega) (by omega) (by omega) h2 hp w hm
      rw [hbad] at this
      exact this
    · exact parse_few s m _ hs rfl (by omega) w hm

/-- Both sides write a day alike. -/
theorem texts (n : Int) : ∃ (s : ByteArray) (e : Int), (∀ w, Lib.TabIs Tryz.prog w "internal/strconv.uint64pow10" .u64 Lib.pow10Tab → Calls Tryz.prog 142 #[.int .i64 n] w fun x w' => x = .returned (.tuple #[.string s, .int .i64 e]) ∧ Below w.heap.size w w') ∧ (∀ _ : World, True) := by
  by_cases h : n < 0 ∨ 3652058 < n
  · refine ⟨⟨#[]⟩, 3, fun w _ => (text_bad n h w).mono ?_, fun _ => trivial⟩
    rintro x w' ⟨rfl, rfl⟩
    exact ⟨rfl, Below.refl _ _⟩
  · obtain ⟨y, m, a, b, c, d, e, f, g⟩ := date_of n (by omega) (by omega)
    exact ⟨_, 0, fun w ht => text_ok n y m (by omega) (by omega) a b c d e f g w ht, fun _ => trivial⟩

end Go.Proofs.YtkkeplmaphcblaaGreatDoor.Days

namespace Go.Proofs.YtkkeplmaphcblaaGreatDoor
open Go.RowKit

def s150 : Bs := [49, 46, 53, 48]
def s15 : Bs := [49, 46, 53]
def sDay : Bs := [50, 48, 48, 48, 45, 48, 49, 45, 48, 49]
noncomputable def lxP (m : Int) (l : Bs) : Res := if l = s150 then ⟨15, 1, 0⟩ else if l = s15 then ⟨15, 1, 0⟩ else if h : (bs l).size < 4294967281 then Classical.choose (reads (bs l) m h) else ⟨0, 0, 5⟩
noncomputable def lxD (m : Int) (l : Bs) : Int × Int := if l = sDay then (730119, 0) else if h : (bs l).size < 4294967281 then (Classical.choose (Days.parses (bs l) m h), Classical.choose (Classical.choose_spec (Days.parses (bs l) m h))) else (0, 5)
noncomputable def lxX (m : Int) : Lx := ⟨lxP m, lxD m, fun l => goodS (bs l)⟩

theorem bs_of {s : ByteArray} {l : Bs} (h : s.data.toList = l) : s = bs l := by
  apply ByteArray.ext
  apply Array.toList_inj.1
  rw [h]
  rfl
theorem parse150 (m : Int) (w : World) (hm : w.cell? ⟨1, 0, none⟩ = some (.int .i64 m)) :
    Calls Tryz.prog 201 #[.string (bs s150)] w fun e w' => e = .returned (.tuple #[.agg #[.int .i64 15, .int .i64 1], .int .i64 0]) ∧ Below w.heap.size w w' := by
  have H : CutUp (bs s150) (bs s150) (bs [49]) (bs [53, 48]) (bs [53]) false true := ⟨by decide +kernel, by decide +kernel, by decide +kernel, by decide +kernel, by decide, by decide, by decide, by decide⟩
  refine (parse_Fo H (by decide +kernel) (.inr ⟨rfl, by decide +kernel⟩) (by decide) (by decide) (by decide) 15 (by decide +kernel) (by decide) m w hm).mono ?_
  rintro _ w' ⟨rfl, hb⟩
  exact ⟨by rw [show (decS (bs [53]).size ((15 : Nat) : Int) false).n = 15 by decide +kernel, show (decS (bs [53]).size ((15 : Nat) : Int) false).s = 1 by decide +kernel, show (decS (bs [53]).size ((15 : Nat) : Int) false).e = 0 by decide +kernel], hb⟩
theorem parse15 (m : Int) (w : World) (hm : w.cell? ⟨1, 0, none⟩ = some (.int .i64 m)) :
    Calls Tryz.prog 201 #[.string (bs s15)] w fun e w' => e = .returned (.tuple #[.agg #[.int .i64 15, .int .i64 1], .int .i64 0]) ∧ Below w.heap.size w w' := by
  have H : CutUp (bs s15) (bs s15) (bs [49]) (bs [53]) (bs [53]) false true := ⟨by decide +kernel, by decide +kernel, by decide +kernel, by decide +kernel, by decide, by decide, by decide, by decide⟩
  refine (parse_Fo H (by decide +kernel) (.inr ⟨rfl, by decide +kernel⟩) (by decide) (by decide) (by decide) 15 (by decide +kernel) (by decide) m w hm).mono ?_
  rintro _ w' ⟨rfl, hb⟩
  exact ⟨by rw [show (decS (bs [53]).size ((15 : Nat) : Int) false).n = 15 by decide +kernel, show (decS (bs [53]).size ((15 : Nat) : Int) false).s = 1 by decide +kernel, show (decS (bs [53]).size ((15 : Nat) : Int) false).e = 0 by decide +kernel], hb⟩
theorem parseDay (m : Int) (w : World) (hm : w.cell? ⟨1, 0, none⟩ = some (.int .i64 m)) :
    Calls Tryz.prog 165 #[.string (bs sDay)] w fun e w' => e = .returned (.tuple #[.int .i64 730119, .int .i64 0]) ∧ Below w.heap.size w w' := by
  refine (Days.parse_parts (bs sDay) ⟨#[50, 48, 48, 48]⟩ ⟨#[48, 49]⟩ ⟨#[48, 49]⟩ m (by decide) (by decide) (by decide) (by decide) (by decide +kernel) (by decide +kernel) w hm).mono ?_
  rintro e w' ⟨rfl, hb⟩
  exact ⟨by rw [show (Days.parseR ⟨#[50, 48, 48, 48]⟩ ⟨#[48, 49]⟩ ⟨#[48, 49]⟩).n = 730119 by decide +kernel, show (Days.parseR ⟨#[50, 48, 48, 48]⟩ ⟨#[48, 49]⟩ ⟨#[48, 49]⟩).e = 0 by decide +kernel], hb⟩

theorem lx_ok (m : Int) : LxOK (lxX m) m := by
  refine ⟨?_, ?_, ?_⟩
  · intro s l hl hlen W hW
    obtain rfl := bs_of hl
    show Calls Tryz.prog 201 #[.string (bs l)] W fun e w' => e = .returned (.tuple #[.agg #[.int .i64 (lxP m l).n, .int .i64 (lxP m l).s], .int .i64 (lxP m l).e]) ∧ Below W.heap.size W w'
    unfold lxP
    by_cases h1 : l = s150
    · rw [if_pos h1, h1]
      exact parse150 m W hW.hm
    · have h2 : (bs l).size < 4294967281 := by rw [bs_size]; omega
      rw [if_neg h1]
      by_cases h3 : l = s15
      · rw [if_pos h3, h3]
        exact parse15 m W hW.hm
      · rw [if_neg h3, dif_pos h2]
        exact (Classical.choose_spec (reads (bs l) m h2)).1 W hW.hm
  · intro s l hl hlen W hW
    obtain rfl := bs_of hl
    show Calls Tryz.prog 165 #[.string (bs l)] W fun e w' => e = .returned (.tuple #[.int .i64 (lxD m l).1, .int .i64 (lxD m l).2]) ∧ Below W.heap.size W w'
    unfold lxD
    by_cases h1 : l = sDay
    · rw [if_pos h1, h1]
      exact parseDay m W hW.hm
    · have h2 : (bs l).size < 4294967281 := by rw [bs_size]; omega
      rw [if_neg h1, dif_pos h2]
      exact (Classical.choose_spec (Classical.choose_spec (Days.parses (bs l) m h2))).1 W hW.hm
  · intro s l hl hlen W hW
    obtain rfl := bs_of hl
    exact good_any (bs l) _ rfl W hW.u8
end Go.Proofs.YtkkeplmaphcblaaGreatDoor

namespace Go.Proofs.YtkkeplmaphcblaaGreatDoor
open Go.RowKit
attribute [local go_sem high] run_tok_eql run_tok_neq tkeq_self run_dec_eql run_dec_neq

def awT : Bs := [120, 49, 32, 60, 61, 32, 49, 46, 53, 48, 32, 64, 34, 50, 48, 48, 48, 45, 48, 49, 45, 48, 49, 34, 46, 46]
def awL : List Tk := [⟨4, 0, [120, 49], 0, 0, 0⟩, ⟨5, 3, [60, 61], 0, 0, 0⟩, ⟨1, 6, [], 15, 1, 0⟩, ⟨3, 11, [], 0, 0, 730119⟩, ⟨5, 24, [46, 46], 0, 0, 0⟩]
def awS : List Bs := [[120, 49], [60, 61], [49, 46, 53], [64, 34, 50, 48, 48, 48, 45, 48, 49, 45, 48, 49, 34], [46, 46]]
theorem aw_toks (m : Int) : toksS (lxX m) awT = ⟨awL, 0, 0⟩ := by kernel_rfl
theorem aw_next (m : Int) : nextS (lxX m) [120, 49, 32] = ⟨⟨4, 0, [120, 49], 0, 0, 0⟩, 2, 0⟩ ∧ nextS (lxX m) [60, 61, 32] = ⟨⟨5, 0, [60, 61], 0, 0, 0⟩, 2, 0⟩ ∧ nextS (lxX m) [46, 46, 32] = ⟨⟨5, 0, [46, 46], 0, 0, 0⟩, 2, 0⟩ ∧ nextS (lxX m) [49, 46, 53, 32] = ⟨⟨1, 0, [], 15, 1, 0⟩, 3, 0⟩ ∧ nextS (lxX m) [64, 34, 50, 48, 48, 48, 45, 48, 49, 45, 48, 49, 34, 32] = ⟨⟨3, 0, [], 0, 0, 730119⟩, 13, 0⟩ := ⟨by kernel_rfl, by kernel_rfl, by kernel_rfl, by kernel_rfl, by kernel_rfl⟩
theorem aw_nx (m : Int) (l : Bs) (N : Nx) (h : nextS (lxX m) l = N) (hl : l ≠ []) (hs : l.length ≤ 1000) (W : World) (hW : OKW m W) :
    Calls Tryz.prog 117 #[.string (bs l)] W fun e w' => e = .returned (.tuple #[tokV N.t, .int .i64 (N.n : Int), .int .i64 N.e]) ∧ Below W.heap.size W w' := by
  rw [← h]
  refine next_any (lxX m) m (lx_ok m) (bs l) l rfl (by rw [bs_size]; omega) ?_ W hW
  rw [bs_size]
  cases l with
  | nil => exact absurd rfl hl
  | cons c r => simp
theorem dayText (w : World) (htab : Lib.TabIs Tryz.prog w "internal/strconv.uint64pow10" .u64 Lib.pow10Tab) :
    Calls Tryz.prog 142 #[.int .i64 730119] w fun e w' => e = .returned (.tuple #[.string ⟨#[50, 48, 48, 48, 45, 48, 49, 45, 48, 49]⟩, .int .i64 0]) ∧ Below w.heap.size w w' := Days.text_awake w htab
end Go.Proofs.YtkkeplmaphcblaaGreatDoor

namespace Go.Proofs.YtkkeplmaphcblaaGreatDoor
open Go.RowKit
attribute [local go_sem high] run_tok_eql run_tok_neq tkeq_self

end Go.Proofs.YtkkeplmaphcblaaGreatDoor

namespace Go.Proofs.YtkkeplmaphcblaaGreatDoor
open Go.RowKit

theorem tokens_far (s : ByteArray) (h : (65536 : Int) < (s.size : Int)) (w : World) : Calls Tryz.prog 75 #[.string s] w fun e w' => e = .returned (.tuple #[.slice none 0 0, .int .i64 0, .int .i64 10]) ∧ Below w.heap.size w w' := by
  go_enter Tryz.func75, Tryz.ntmps75
  go_wp2
  go_returns
  exact ⟨rfl, by (repeat' (first | (with_reducible exact Below.refl _ _) | (with_reducible assumption) | (with_reducible refine balloc ?_ _) | (with_reducible refine Below.drew ?_) | (with_reducible refine bset ?_ ?_ _) | (with_reducible refine bstep ?_ (by with_reducible assumption)) | (with_reducible refine bturn ?_ (by with_reducible assumption) ?_) | go_size))⟩
theorem tokens_all (x : Lx) (m : Int) (H : LxOK x m) (s : ByteArray) (l : Bs) (hl : s.data.toList = l) (w : World) (hw : OKW m w) :
    Calls Tryz.prog 75 #[.string s] w fun e w' => (∃ A c, e = .returned (.tuple #[.slice A (toksS x l).l.length c, .int .i64 ((toksS x l).n : Int), .int .i64 (toksS x l).e]) ∧ TM w' A (toksS x l).l ∧ (toksS x l).l.length ≤ c ∧ c ≤ maxLen) ∧ Below w.heap.size w w' := by
  by_cases h : s.size ≤ 65536
  · exact tokens_any x m H s l hl h w hw
  · have hll : l.length = s.size := by rw [← hl, size_list]
    have hT : toksS x l = ⟨[], 0, 10⟩ := by unfold toksS; rw [if_pos (by omega)]
    rw [hT]
    refine (tokens_far s (by omega) w).mono ?_
    rintro _ w' ⟨rfl, hb⟩
    exact ⟨⟨none, 0, rfl, TM.nil _ _, Nat.le_refl _, by unfold maxLen; omega⟩, hb⟩
def lawP (s : ByteArray) (x : Lx) : Tks := toksS x s.data.toList
theorem TM.take {w : World} {A : Option Addr} {L M : List Tk} (h : TM w A (L ++ M)) : TM w A L := fun i t ht => h i t (by
  rw [List.getElem?_append_left (List.getElem?_eq_some_iff.1 ht).1]; exact ht)
theorem TM.drop {w : World} {g o : Nat} {L M : List Tk} (h : TM w (some ⟨g, o, none⟩) (L ++ M)) : TM w (some ⟨g, o + L.length * 6, none⟩) M := fun i t ht => by
  obtain ⟨g', o', e, hc⟩ := h (L.length + i) t (by rw [List.getElem?_append_right (by omega), Nat.add_sub_cancel_left]; exact ht)
  cases e
  exact ⟨g, _, rfl, fun j v hj => by rw [← hc j v hj]; congr 2; omega⟩

theorem TM.dropMap {w : World} {A : Option Addr} {L M : List Tk} {n : Nat} (h : TM w A (L ++ M)) (hn : L.length = n) : TM w (Option.map (fun x => x.add (n * 6)) A) M := fun i t ht => by
  obtain ⟨g, o, e, hc⟩ := h (L.length + i) t (by rw [List.getElem?_append_right (by omega), Nat.add_sub_cancel_left]; exact ht)
  refine ⟨g, o + n * 6, ?_, fun j v hj => ?_⟩
  · rw [e]
    show some ((⟨g, o, none⟩ : Addr).add (n * 6)) = _
    congr 1
    unfold Addr.add
    split
    · rename_i h0; rw [h0, Nat.add_zero]
    · rfl
  · rw [← hc j v hj, hn]
    congr 2
    omega
end Go.Proofs.YtkkeplmaphcblaaGreatDoor

namespace Go.Proofs.YtkkeplmaphcblaaGreatDoor
open Go.RowKit

theorem toks_len (x : Lx) : ∀ (f a : Nat) (l : Bs) (acc : List Tk), (toksA x f a l acc).l.length ≤ acc.length + l.length ∧ (toksA x f a l acc).n ≤ a + l.length
  | 0, a, l, acc => by simp only [toksA]; omega
  | f + 1, a, l, acc => by
    cases hd : l.drop (runS whites l) with
    | nil => rw [toksA_end hd]; simp only; omega
    | cons c r =>
      have hl := len_drop hd
      by_cases he : (nextS x (c :: r)).e = 0
      · have hb := next_bd x _ he
        rw [toksA_go hd he]
        have := toks_len x f (a + runS whites l + (nextS x (c :: r)).n) ((c :: r).drop (nextS x (c :: r)).n) (acc ++ [{ (nextS x (c :: r)).t with a := a + runS whites l }])
        rw [List.length_append, List.length_singleton, List.length_drop] at this
        omega
      · rw [toksA_bad hd he]
        simp only [List.length_nil]
        omega
theorem toksS_len (x : Lx) (l : Bs) : (toksS x l).l.length ≤ 65536 ∧ (toksS x l).n ≤ 65536 := by
  unfold toksS
  split
  · simp
  · have := toks_len x (l.length + 1) 0 l []
    simp only [List.length_nil] at this
    omega

end Go.Proofs.YtkkeplmaphcblaaGreatDoor

namespace Go.Proofs.YtkkeplmaphcblaaGreatDoor
open Go.RowKit

theorem race_disable (w : World) : (callFunc 275 #[]).run Tryz.prog w = .ok (.value (.tuple #[])) w := run_call_mark0 Tryz.func275 (by kernel_rfl) (by kernel_rfl) (by kernel_rfl) .disable (by kernel_rfl) w
theorem race_enable (w : World) : (callFunc 277 #[]).run Tryz.prog w = .ok (.value (.tuple #[])) w := run_call_mark0 Tryz.func277 (by kernel_rfl) (by kernel_rfl) (by kernel_rfl) .enable (by kernel_rfl) w
theorem race_acquire (a : Addr) (w : World) : (callFunc 278 #[.pointer (some a)]).run Tryz.prog w = .ok (.value (.tuple #[])) w := run_call_marked Tryz.func278 (by kernel_rfl) (by kernel_rfl) (by kernel_rfl) .acquire (by kernel_rfl) a w
theorem race_release (a : Addr) (w : World) : (callFunc 280 #[.pointer (some a)]).run Tryz.prog w = .ok (.value (.tuple #[])) w := run_call_marked Tryz.func280 (by kernel_rfl) (by kernel_rfl) (by kernel_rfl) .releaseMerge (by kernel_rfl) a w

set_option maxRecDepth 100000 in
theorem store_deferred (a : Addr) (x : Value) (u : FrameMode) (w : World) (hc : w.cell? a = some x) (hz : w.frozen? a = false) :
    CallsD Tryz.prog 239 #[.pointer (some a), .bool true] u w fun e u' w' => u' = u ∧ (e = .returned (.tuple #[]) ∧ w' = w.drew.setCell a (.int .u32 1)) := by
  have hc' : w.drew.cell? a = some x := by go_simp
  have hz' : w.drew.frozen? a = false := by go_simp
  have hst := run_call_store (P := Tryz.prog) Tryz.func261 (by kernel_rfl) (by kernel_rfl) (by kernel_rfl) (by kernel_rfl) (k := .u32) (y := 1) hc' hz'
  go_enter_d Tryz.func239, Tryz.ntmps239
  go_wp2
  go_region_calls
  all_goals (go_end0; exact ⟨rfl, rfl⟩)

set_option maxRecDepth 100000 in
theorem unlock_deferred (a : Addr) (u : FrameMode) (w : World) (hc : w.cell? a = some (.int .i32 1)) (hz : w.frozen? a = false) :
    CallsD Tryz.prog 238 #[.pointer (some a)] u w fun e u' w' => u' = u ∧ (e = .returned (.tuple #[]) ∧ w' = w.setCell a (.int .i32 0)) := by
  have hd := race_disable
  have he := race_enable
  have hr := race_release
  have hadd := run_call_add (P := Tryz.prog) Tryz.func281 (by kernel_rfl) (by kernel_rfl) (by kernel_rfl) .i32 (by kernel_rfl) (y := -1) (s := 0) hc hz (by simp [go_sem]; rfl)
  have hcv := run_convert_to_unsafe (P := Tryz.prog) (src := 312) (dst := 229) Tryz.underlying312 Tryz.underlying229 (by kernel_rfl) hc
  go_enter_d Tryz.func238, Tryz.ntmps238
  go_wp2
  go_end0
  exact ⟨rfl, rfl⟩

set_option maxRecDepth 100000 in
theorem lock_free (a : Addr) (w : World) (hc : w.cell? a = some (.int .i32 0)) (hz : w.frozen? a = false) :
    Calls Tryz.prog 237 #[.pointer (some a)] w fun e w' => e = .returned (.tuple #[]) ∧ w' = w.setCell a (.int .i32 1) := by
  have hd := race_disable
  have he := race_enable
  have ha := race_acquire
  have hcas := run_call_cas_hit (P := Tryz.prog) Tryz.func276 (by kernel_rfl) (by kernel_rfl) (by kernel_rfl) .i32 (by kernel_rfl) (y := 1) hc hz
  have hc' : (w.setCell a (.int .i32 1)).cell? a = some (.int .i32 1) := World.cell?_setCell_same w a _ hc
  have hcv := run_convert_to_unsafe (P := Tryz.prog) (src := 312) (dst := 229) Tryz.underlying312 Tryz.underlying229 (by kernel_rfl) hc'
  go_enter Tryz.func237, Tryz.ntmps237
  go_wp2
  first | go_end0 | (simp only [Exit.inBlock, Exit.then]; refine bodyPost_ret (results_none rfl _ _ _) rfl ?_) | refine bodyPost_ret (results_none rfl _ _ _) rfl ?_
  exact ⟨rfl, rfl⟩

set_option maxRecDepth 100000 in
theorem done_load (a : Addr) (x : Int) (b : Bool) (hb : (x != 0) = b) (w : World) (h0 : w.cell? a = some (.int .u32 x)) :
    Calls Tryz.prog 211 #[.pointer (some a)] w fun e w' => e = .returned (.bool b) ∧ w = w' := by
  have hl := run_call_load (P := Tryz.prog) Tryz.func236 (by kernel_rfl) (by kernel_rfl) (by kernel_rfl) .u32 (by kernel_rfl) h0
  subst hb
  go_enter Tryz.func211, Tryz.ntmps211
  go_wp2
  go_ret
  exact ⟨rfl, rfl⟩

set_option maxRecDepth 100000 in
set_option maxHeartbeats 4000000 in
/-- Once's slow road, not done, the lock free: what the function makes of the world stands in between. -/
theorem slow_once (b : Nat) (V : World → Prop) (w : World)
    (h0 : w.cell? ⟨b, 0, none⟩ = some (.int .u32 0)) (h1 : w.cell? ⟨b, 1, none⟩ = some (.int .i32 0)) (f1 : w.frozen? ⟨b, 1, none⟩ = false)
    (HF : Hid (Calls Tryz.prog 186 #[.pointer (some ⟨b, 0, none⟩)] (w.setCell ⟨b, 1, none⟩ (.int .i32 1)) fun e w1 => e = .returned (.tuple #[]) ∧ V w1))
    (HV : Hid (∀ w1, V w1 → w1.cell? ⟨b, 0, none⟩ = some (.int .u32 0) ∧ w1.cell? ⟨b, 1, none⟩ = some (.int .i32 1) ∧ w1.frozen? ⟨b, 0, none⟩ = false ∧ w1.frozen? ⟨b, 1, none⟩ = false)) :
    Calls Tryz.prog 212 #[.pointer (some ⟨b, 0, none⟩), .func (.func 186) #[.pointer (some ⟨b, 0, none⟩)] #[]] w fun e w' => e = .returned (.tuple #[]) ∧ ∃ w1, V w1 ∧ w' = (w1.drew.setCell ⟨b, 0, none⟩ (.int .u32 1)).setCell ⟨b, 1, none⟩ (.int .i32 0) := by
  have h01 : (w.setCell ⟨b, 1, none⟩ (.int .i32 1)).cell? ⟨b, 0, none⟩ = some (.int .u32 0) := (World.cell?_setCell_other _ ⟨b, 1, none⟩ ⟨b, 0, none⟩ _ (by simp)).trans h0
  have HL := Lib.hid (done_load ⟨b, 0, none⟩ 0 false rfl _ h01)
  have HK := Lib.hid (lock_free ⟨b, 1, none⟩ w h1 f1)
  have hnot : ∀ (x : Bool) (w : World), (Op.unary .not (.bool x)).run Tryz.prog w = .ok (.bool (!x)) w := fun _ _ => rfl
  clear h01
  go_enter_defers Tryz.func212, Tryz.ntmps212
  go_wp2_with fail
  refine HK.out.mono ?_
  rintro _ _ ⟨rfl, rfl⟩
  go_wp2_with fail
  refine HL.out.mono ?_
  rintro _ _ ⟨rfl, rfl⟩
  go_wp2_with fail
  refine HF.out.mono ?_
  rintro _ w1 ⟨rfl, hV⟩
  obtain ⟨v0, v1, g0, g1⟩ := HV.out w1 hV
  go_wp2
  refine leaves_cons (f := 239) (args := #[.pointer (some ⟨b, 0, none⟩), .bool true]) (by simp) (by simp [go_sem]) ?_
  refine (store_deferred ⟨b, 0, none⟩ (.int .u32 0) .returning _ v0 g0).mono ?_
  rintro e u' w'' ⟨rfl, rfl, rfl⟩
  refine leaves_cons (f := 238) (args := #[.pointer (some ⟨b, 1, none⟩)]) (by simp [settle]) (by simp [go_sem]) ?_
  refine (unlock_deferred ⟨b, 1, none⟩ _ _ ?_ (by simp [g1])).mono ?_
  · refine (World.cell?_setCell_other _ ⟨b, 0, none⟩ ⟨b, 1, none⟩ _ (by simp)).trans ?_
    rw [World.cell?_drew]
    exact v1
  rintro e u' w'' ⟨rfl, rfl, rfl⟩
  simp [Leaves, settle, results, Tryz.results212]
  exact ⟨w1, hV, rfl⟩

set_option maxRecDepth 100000 in
set_option maxHeartbeats 4000000 in
theorem do_once (b : Nat) (V : World → Prop) (w : World)
    (h0 : w.cell? ⟨b, 0, none⟩ = some (.int .u32 0)) (h1 : w.cell? ⟨b, 1, none⟩ = some (.int .i32 0)) (f1 : w.frozen? ⟨b, 1, none⟩ = false)
    (HF : Hid (Calls Tryz.prog 186 #[.pointer (some ⟨b, 0, none⟩)] (w.setCell ⟨b, 1, none⟩ (.int .i32 1)) fun e w1 => e = .returned (.tuple #[]) ∧ V w1))
    (HV : Hid (∀ w1, V w1 → w1.cell? ⟨b, 0, none⟩ = some (.int .u32 0) ∧ w1.cell? ⟨b, 1, none⟩ = some (.int .i32 1) ∧ w1.frozen? ⟨b, 0, none⟩ = false ∧ w1.frozen? ⟨b, 1, none⟩ = false)) :
    Calls Tryz.prog 185 #[.pointer (some ⟨b, 0, none⟩), .func (.func 186) #[.pointer (some ⟨b, 0, none⟩)] #[]] w fun e w' => e = .returned (.tuple #[]) ∧ ∃ w1, V w1 ∧ w' = (w1.drew.setCell ⟨b, 0, none⟩ (.int .u32 1)).setCell ⟨b, 1, none⟩ (.int .i32 0) := by
  have HL := Lib.hid (done_load ⟨b, 0, none⟩ 0 false rfl _ h0)
  have HS := Lib.hid (slow_once b V w h0 h1 f1 HF HV)
  have hnot : ∀ (x : Bool) (w : World), (Op.unary .not (.bool x)).run Tryz.prog w = .ok (.bool (!x)) w := fun _ _ => rfl
  clear h0 h1 f1 HF HV
  go_enter Tryz.func185, Tryz.ntmps185
  go_wp2_with fail
  refine HL.out.mono ?_
  rintro _ _ ⟨rfl, rfl⟩
  go_wp2_with fail
  refine HS.out.mono ?_
  rintro _ w' ⟨rfl, hw⟩
  have HW := Lib.hid hw
  clear hw
  go_wp2
  go_end0
  exact ⟨rfl, HW.out⟩
end Go.Proofs.YtkkeplmaphcblaaGreatDoor

namespace Go.Proofs.YtkkeplmaphcblaaGreatDoor
open Go.RowKit

def repL : List Bs := [[92], [92, 92], [34], [92, 34]]
/-- The cells of a byteStringReplacer: what stands for each byte, and which are replaced. -/
def RC (p q t : Value) : Array Value := (((Array.replicate 257 (Value.slice none 0 0)).setIfInBounds 34 p).setIfInBounds 92 q).setIfInBounds 256 t
theorem RC_get (p q t : Value) (i : Nat) (hi : i < 257) : (RC p q t)[i]? = some (if i = 256 then t else if i = 92 then q else if i = 34 then p else .slice none 0 0) := by
  unfold RC
  by_cases h1 : i = 256
  · subst h1; simp
  · by_cases h2 : i = 92
    · subst h2; simp
    · by_cases h3 : i = 34
      · subst h3; simp
      · have g1 : ¬ 256 = i := fun e => h1 e.symm
        have g2 : ¬ 92 = i := fun e => h2 e.symm
        have g3 : ¬ 34 = i := fun e => h3 e.symm
        simp [h1, h2, h3, g1, g2, g3, hi]
theorem RC_size (p q t : Value) : (RC p q t).size = 257 := by simp [RC]
theorem RC_ext (p q t : Value) (A : Array Value) (hs : A.size = 257) (h : ∀ i, i < 257 → A[i]? = some (if i = 256 then t else if i = 92 then q else if i = 34 then p else .slice none 0 0)) : A = RC p q t := by
  apply Array.ext_getElem?
  intro i
  by_cases hi : i < 257
  · rw [h i hi, RC_get p q t i hi]
  · rw [Array.getElem?_eq_none (by omega), Array.getElem?_eq_none (by rw [RC_size]; omega)]
theorem RC_34 (p q t u : Value) : (RC p q t).setIfInBounds 34 u = RC u q t := by
  apply RC_ext
  · simp [RC_size]
  · intro i hi
    rw [Array.getElem?_setIfInBounds, RC_get p q t i hi, RC_size]
    by_cases h : 34 = i
    · subst h; simp
    · have h2 : ¬ i = 34 := fun e => h e.symm
      simp [h, h2]
theorem RC_92 (p q t u : Value) : (RC p q t).setIfInBounds 92 u = RC p u t := by
  apply RC_ext
  · simp [RC_size]
  · intro i hi
    rw [Array.getElem?_setIfInBounds, RC_get p q t i hi, RC_size]
    by_cases h : 92 = i
    · subst h; simp
    · have h2 : ¬ i = 92 := fun e => h e.symm
      simp [h, h2]
theorem RC_256 (p q t u : Value) : (RC p q t).setIfInBounds 256 u = RC p q u := by
  apply RC_ext
  · simp [RC_size]
  · intro i hi
    rw [Array.getElem?_setIfInBounds, RC_get p q t i hi, RC_size]
    by_cases h : 256 = i
    · subst h; simp
    · have h2 : ¬ i = 256 := fun e => h e.symm
      simp [h, h2]

section
variable {P : Program}
theorem run_alloc_z (w : World) (t : TypeId) (z : Value) (hz : (P.info? t).map (·.zero) = some (some z)) : (Instr.alloc t true (.tuple #[])).run P w = .ok (.pointer (some ⟨w.heap.size, 0, none⟩)) (w.alloc (.cells z.cells t)) := by
  cases hq : P.info? t with
  | none => simp [hq] at hz
  | some i =>
    have h0 : i.zero = some z := by simpa [hq] using hz
    simp [Instr.alloc, zeroValue, typeInfo, hq, h0, newVar, newRow]
theorem wpList_alloc_z {ops : Array Oper} {rest : List Oper} {o : Oper} {a : Act} {w : World} {Q : Exit → Act → World → Prop} (hgd : o.guard = none) (t : TypeId) (ho : o.op = .alloc t) (cs : Array Value) (hz : (P.info? t).map (·.zero) = some (some (.agg cs)))
    (h : wpList P ops Q rest (a.put o.dst (.pointer (some ⟨w.heap.size, 0, none⟩))) (w.alloc (.cells cs t))) : wpList P ops Q (o :: rest) a w :=
  wpList_plain hgd fun _ hK => by
    unfold Oper.wp execOp
    simp only [ho, Sem.run_bind, Sem.run_pure, run_alloc_z w t (.agg cs) hz, Result.andThen_ok]
    exact hK _ _ h
theorem wpList_build {ops : Array Oper} {rest : List Oper} {o : Oper} {a : Act} {w : World} {Q : Exit → Act → World → Prop} (hgd : o.guard = none) (t : TypeId) (parts : Array (Nat × Operand)) (ho : o.op = .build t parts) (vs : Array (Nat × Value)) (hv : parts.map (fun x => (x.1, a.eval x.2)) = vs) (cs : Array Value) (hz : P.built t vs.toList = some cs)
    (h : wpList P ops Q rest (a.put o.dst (.agg cs)) w) : wpList P ops Q (o :: rest) a w :=
  wpList_plain hgd fun _ hK => by
    unfold Oper.wp execOp
    subst hv
    simp only [ho, Sem.run_bind, Sem.run_pure]
    rw [run_build w t _ cs hz]
    exact hK _ _ h
end
theorem info_rep : (Tryz.prog.info? 281).map (·.zero) = some (some (.agg (RC (.slice none 0 0) (.slice none 0 0) (.slice none 0 0)))) := by kernel_rfl
theorem size_rep : (Tryz.prog.info? 281).map (·.size) = some 257 := by kernel_rfl
theorem built_rep (a : Option Addr) (l c : Nat) : Tryz.prog.built 281 [(1, .slice a l c)] = some (RC (.slice none 0 0) (.slice none 0 0) (.slice a l c)) := by kernel_rfl
theorem all_rep (p q t : Value) (hp : p.oneCell' = true) (hq : q.oneCell' = true) (ht : t.oneCell' = true) : (RC p q t).all (·.oneCell') = true := by
  rw [Array.all_eq_true_iff_forall_mem]
  intro v hv
  obtain ⟨i, hi, rfl⟩ := Array.mem_iff_getElem.1 hv
  have h257 : i < 257 := by rw [RC_size] at hi; exact hi
  have h := RC_get p q t i h257
  rw [Array.getElem?_eq_getElem hi] at h
  have h2 := Option.some.inj h
  rw [h2]
  split
  · exact ht
  · split
    · exact hq
    · split
      · exact hp
      · rfl
theorem infoStr : (Tryz.prog.info? 9).map (fun i => (i.zero, i.size, i.bytes)) = some (some (.string ⟨#[]⟩), 1, 16) := by kernel_rfl

/-- A slice of bytes. -/
def ByS (w : World) (p : Value) (l : Bs) : Prop := ∃ g c, p = .slice (some ⟨g, 0, none⟩) l.length c ∧ ∀ i x, l[i]? = some x → w.cell? ⟨g, i, none⟩ = some (.int .u8 (x.toNat : Int))
theorem ByS.step {w w' : World} {p : Value} {l : Bs} (h : ByS w p l) (hb : RowKit.Below w.heap.size w w') : ByS w' p l := by
  obtain ⟨g, c, e, hc⟩ := h
  exact ⟨g, c, e, fun i x hx => keep1 hb (hc i x hx)⟩
/-- What build leaves. -/
def RB (w : World) (q : Nat) : Prop := ∃ (p r : Value) (gt ct : Nat), Blk w q 281 (RC p r (.slice (some ⟨gt, 0, none⟩) 2 ct)) ∧ ByS w p [92, 34] ∧ ByS w r [92, 92] ∧ SS w gt [[34], [92]]
theorem RB.step {w w' : World} {q : Nat} (h : RB w q) (hb : RowKit.Below w.heap.size w w') : RB w' q := by
  obtain ⟨p, r, gt, ct, h0, h1, h2, h3⟩ := h
  exact ⟨p, r, gt, ct, h0.step hb, h1.step hb, h2.step hb, h3.step hb⟩

set_option maxRecDepth 100000 in
theorem mk_rep (w : World) : (Instr.makeSlice 29 (.int .i64 0) (.int .i64 2)).run Tryz.prog w = .ok (.slice (some ⟨w.heap.size, 0, none⟩) 0 2) (w.alloc (.cells #[.string ⟨#[]⟩, .string ⟨#[]⟩] 9)) := by
  obtain ⟨i, hi⟩ : ∃ i, Tryz.prog.info? 9 = some i := by
    have := infoStr
    cases hq : Tryz.prog.info? 9 with
    | none => rw [hq] at this; cases this
    | some i => exact ⟨i, rfl⟩
  have h := infoStr
  rw [hi] at h
  have h1 : i.zero = some (.string ⟨#[]⟩) := by injection h with h; exact congrArg (·.1) h
  have h2 : i.size = 1 := by injection h with h; exact congrArg (·.2.1) h
  have h3 : i.bytes = 16 := by injection h with h; exact congrArg (·.2.2) h
  have hr := run_makeSlice w 29 9 i (.string ⟨#[]⟩) Tryz.underlying29 hi h1 .i64 .i64 0 2 (by decide) (by decide) (by rw [h2]; decide) (by rw [h3]; decide) (by decide)
  rw [h2] at hr
  have hm : madeCells (Value.string ⟨#[]⟩).cells (Int.toNat 2 * 1) = #[.string ⟨#[]⟩, .string ⟨#[]⟩] := by kernel_rfl
  rw [hm] at hr
  exact hr
set_option maxRecDepth 100000 in
theorem alloc_rep (w : World) : (Instr.alloc 281 true (.tuple #[])).run Tryz.prog w = .ok (.pointer (some ⟨w.heap.size, 0, none⟩)) (w.alloc (.cells (RC (.slice none 0 0) (.slice none 0 0) (.slice none 0 0)) 281)) := run_alloc_z w _ _ info_rep
set_option maxRecDepth 100000 in
theorem bld_rep (w : World) (a : Option Addr) (l c : Nat) : (Instr.build 281 #[(1, .slice a l c)]).run Tryz.prog w = .ok (.agg (RC (.slice none 0 0) (.slice none 0 0) (.slice a l c))) w := run_build w _ _ _ (built_rep a l c)
theorem zero_rep : Tryz.zeroCells281 = RC (.slice none 0 0) (.slice none 0 0) (.slice none 0 0) := by kernel_rfl
theorem zset_rep (a : Option Addr) (l c : Nat) : Tryz.zeroCells281.toList.set 256 (.slice a l c) = (RC (.slice none 0 0) (.slice none 0 0) (.slice a l c)).toList := by kernel_rfl
set_option maxRecDepth 100000 in
theorem st_rep (W : World) (q : Nat) (a : Option Addr) (l c : Nat) (hq : Blk W q 281 (RC (.slice none 0 0) (.slice none 0 0) (.slice none 0 0))) :
    (storeCells ⟨q, 0, none⟩ (Tryz.zeroCells281.toList.set 256 (.slice a l c))).run Tryz.prog W = .ok () (W.setRow q (RC (.slice none 0 0) (.slice none 0 0) (.slice a l c))) := by
  rw [zset_rep]
  have h := run_storeCells_at (P := Tryz.prog) q 0 281 (RC (.slice none 0 0) (.slice none 0 0) (.slice a l c)).toList 0 _ W hq (by simp [RC_size]) (fun v hv => by
    have := all_rep (.slice none 0 0) (.slice none 0 0) (.slice a l c) rfl rfl rfl
    rw [Array.all_eq_true_iff_forall_mem] at this
    exact this v (by simpa using hv))
  rw [h]
  congr 2
  first | done | (apply Array.ext'; simp [RC_size])
/-- Where build stands before its last loop. -/
theorem made_rep (w : World) : ∃ W1, (storeCells ⟨w.heap.size + 1, 0, none⟩ (Tryz.zeroCells281.toList.set 256 (.slice (some ⟨w.heap.size, 0, none⟩) 0 2))).run Tryz.prog ((w.alloc (.cells #[.string ⟨#[]⟩, .string ⟨#[]⟩] 9)).alloc (.cells Tryz.zeroCells281 281)) = .ok () W1
    ∧ Blk W1 (w.heap.size + 1) 281 (RC (.slice none 0 0) (.slice none 0 0) (.slice (some ⟨w.heap.size, 0, none⟩) 0 2)) ∧ Blk W1 w.heap.size 9 #[.string ⟨#[]⟩, .string ⟨#[]⟩] ∧ Below w.heap.size w W1 := by
  have hq : Blk ((w.alloc (.cells #[.string ⟨#[]⟩, .string ⟨#[]⟩] 9)).alloc (.cells Tryz.zeroCells281 281)) (w.heap.size + 1) 281 (RC (.slice none 0 0) (.slice none 0 0) (.slice none 0 0)) := by
    rw [← zero_rep]
    exact Blk.new' _ _ _ (by simp)
  have hb : Below w.heap.size w ((w.alloc (.cells #[.string ⟨#[]⟩, .string ⟨#[]⟩] 9)).alloc (.cells Tryz.zeroCells281 281)) := by (repeat' (first | (with_reducible exact Below.refl _ _) | (with_reducible assumption) | (with_reducible refine balloc ?_ _) | (with_reducible refine Below.drew ?_) | (with_reducible refine bset ?_ ?_ _) | (with_reducible refine bstep ?_ (by with_reducible assumption)) | (with_reducible refine bturn ?_ (by with_reducible assumption) ?_) | go_size))
  have ho : Blk ((w.alloc (.cells #[.string ⟨#[]⟩, .string ⟨#[]⟩] 9)).alloc (.cells Tryz.zeroCells281 281)) w.heap.size 9 #[.string ⟨#[]⟩, .string ⟨#[]⟩] := (Blk.new w _ _).alloc _
  exact ⟨_, st_rep _ _ _ _ _ hq, setRow_heap _ _ _ _ _ _ hq, (setRow_other _ _ _ _ (by omega)).trans ho, below_setRow hb (by omega) _⟩
theorem Blk.setQ {w : World} {g : Nat} {t : TypeId} {cs : Array Value} (h : Blk w g t cs) (i : Nat) (u : Value) (cs' : Array Value) (he : cs.setIfInBounds i u = cs') : Blk (w.setCell ⟨g, i, none⟩ u) g t cs' := he ▸ h.set_ i u
theorem ss_two {w : World} {g : Nat} (h : Blk w g 9 #[.string ⟨#[34]⟩, .string ⟨#[92]⟩]) : SS w g [[34], [92]] := fun i l hl => by
  match i, hl with
  | 0, hl => cases hl; exact h.cell 0
  | 1, hl => cases hl; exact h.cell 1
/-- A row of bytes that has just been laid. -/
theorem bys_new (W : World) (l : Bs) (n cap c : Nat) (t : TypeId) (m : Nat × Nat) (hn : n = W.heap.size) : ByS (W.alloc (.cells (bytesRow ⟨l.toArray⟩ cap) t m)).drew (.slice (some ⟨n, 0, none⟩) l.length c) l := by
  subst hn
  refine ⟨_, _, rfl, fun i x hx => ?_⟩
  have h1 : (W.alloc (.cells (bytesRow ⟨l.toArray⟩ cap) t m)).heap[W.heap.size]? = some (.cells (bytesRow ⟨l.toArray⟩ cap) t m) := heap_alloc_new W _
  show (W.alloc (.cells (bytesRow ⟨l.toArray⟩ cap) t m)).cell? _ = _
  rw [cell_of_row _ W.heap.size i _ t m h1]
  have hi : i < l.length := (List.getElem?_eq_some_iff.1 hx).1
  unfold bytesRow
  rw [Array.getElem?_append_left (by simpa using hi)]
  simp [hx]
theorem sb_rep (s : ByteArray) (W : World) : (convert 9 93 (.string s)).run Tryz.prog W = .ok (.slice (some ⟨W.heap.size, 0, none⟩) s.size (grownCap W s.size 0 5))
      (W.drew.alloc (.cells (bytesRow s (grownCap W s.size 0 5)) 5 ((bytesRow s (grownCap W s.size 0 5)).size, (bytesRow s (grownCap W s.size 0 5)).size + 1))) :=
  run_bytes_of_string W 9 93 5 s Tryz.underlying9 Tryz.underlying93 Tryz.underlying5
theorem chr_rep (x : Int) (c : UInt8) (hx : (c.toNat : Int) = x) (W : World) :
    (convert 93 9 (.slice (some ⟨W.heap.size, 0, none⟩) 1 1)).run Tryz.prog (W.alloc (.cells #[.int .u8 x] 5)) = .ok (.string ⟨#[c]⟩) (W.alloc (.cells #[.int .u8 x] 5)) := by
  subst hx
  exact run_convert_bytes_back (P := Tryz.prog) (W.alloc (.cells #[.int .u8 (c.toNat : Int)] 5)) 93 9 5 ⟨W.heap.size, 0, none⟩ 1 [c] Tryz.underlying93 Tryz.underlying5 Tryz.underlying9 (fun j hj => by
    obtain rfl : j = 0 := by simp at hj; omega
    show (W.alloc _).cell? ((⟨W.heap.size, 0, none⟩ : Addr).add 0) = some (.int .u8 (c.toNat : Int))
    rw [show (⟨W.heap.size, 0, none⟩ : Addr).add 0 = ⟨W.heap.size, 0, none⟩ from rfl]
    exact (Blk.new W _ _).cell 0)
set_option maxHeartbeats 8000000 in
set_option maxRecDepth 100000 in
theorem build_rep (b g c : Nat) (w : World) (h4 : w.cell? ⟨b, 4, none⟩ = some (.slice (some ⟨g, 0, none⟩) 4 c)) (hS : SS w g repL) :
    Calls Tryz.prog 213 #[.pointer (some ⟨b, 0, none⟩)] w fun e w' => ∃ q, e = .returned (.iface 282 (.pointer (some ⟨q, 0, none⟩))) ∧ RB w' q ∧ Below w.heap.size w w' := by
  have s0 : w.cell? ⟨g, 0, none⟩ = some (.string ⟨#[92]⟩) := hS 0 _ rfl
  have s1 : w.cell? ⟨g, 1, none⟩ = some (.string ⟨#[92, 92]⟩) := hS 1 _ rfl
  have s2 : w.cell? ⟨g, 2, none⟩ = some (.string ⟨#[34]⟩) := hS 2 _ rfl
  have s3 : w.cell? ⟨g, 3, none⟩ = some (.string ⟨#[92, 34]⟩) := hS 3 _ rfl
  clear hS
  have hmk := mk_rep
  have hal := alloc_rep
  have hbl := bld_rep
  obtain ⟨W1, hst, hq, ho, hb1⟩ := made_rep w
  go_enter Tryz.func213, Tryz.ntmps213
  go_wp2_with fail
  go_loop [5, 4] (fun i f => (i = .int .i64 0 ∧ f = .bool true) ∨ (i = .int .i64 2 ∧ f = .bool false) ∨ (i = .int .i64 4 ∧ f = .bool false)) (fun i _ => 4 - (intOf i).toNat)
  case atStart => exact .inl ⟨rfl, rfl⟩
  case round =>
    rcases hrel with ⟨rfl, rfl⟩ | ⟨rfl, rfl⟩ | ⟨rfl, rfl⟩
    · go_wp2_with fail
      go_round
      case rel => exact .inr (.inl ⟨rfl, rfl⟩)
      case measure => simp [intOf]
    · go_wp2_with fail
      go_round
      case rel => exact .inr (.inr ⟨rfl, rfl⟩)
      case measure => simp [intOf]
    · go_wp2_with fail
      obtain ⟨q, gt, HA, hqb, hgb, hgq⟩ : ∃ q gt, (w.heap.size + 1 = q ∧ w.heap.size = gt ∧ Hid (Blk W1 q 281 (RC (.slice none 0 0) (.slice none 0 0) (.slice (some ⟨gt, 0, none⟩) 0 2)) ∧ Blk W1 gt 9 #[.string ⟨#[]⟩, .string ⟨#[]⟩] ∧ Below w.heap.size w W1)) ∧ w.heap.size ≤ q ∧ w.heap.size ≤ gt ∧ gt ≠ q := ⟨_, _, ⟨rfl, rfl, Lib.hid ⟨hq, ho, hb1⟩⟩, by omega, by omega, by omega⟩
      obtain ⟨hqe, hge, HA⟩ := HA
      have hqg : q ≠ gt := fun e => hgq e.symm
      clear hst hq ho hb1 hmk hal hbl
      rw [hqe]
      simp only [hge]
      go_loopw [12, 13, 14] (fun i _ _ wr => (i = .int .i64 2 ∧ Hid (Blk wr q 281 (RC (.slice none 0 0) (.slice none 0 0) (.slice (some ⟨gt, 0, none⟩) 0 2)) ∧ Blk wr gt 9 #[.string ⟨#[]⟩, .string ⟨#[]⟩] ∧ Below w.heap.size w wr))
        ∨ (i = .int .i64 0 ∧ Hid (∃ p, Blk wr q 281 (RC p (.slice none 0 0) (.slice (some ⟨gt, 0, none⟩) 1 2)) ∧ ByS wr p [92, 34] ∧ Blk wr gt 9 #[.string ⟨#[34]⟩, .string ⟨#[]⟩] ∧ Below w.heap.size w wr))
        ∨ (i = .int .i64 (-2) ∧ Hid (RB wr q ∧ Below w.heap.size w wr))) (fun i _ _ _ => (intOf i + 2).toNat)
      case atStart => exact .inl ⟨rfl, HA⟩
      case round =>
        rcases hrel with ⟨rfl, HA2⟩ | ⟨rfl, HB2⟩ | ⟨rfl, HC2⟩
        · obtain ⟨hq, ho, hbr⟩ := HA2.out
          have t0 := keep1 hbr s0
          have t1 := keep1 hbr s1
          have t2 := keep1 hbr s2
          have t3 := keep1 hbr s3
          have c34 : wr.cell? ⟨q, 34, none⟩ = some (.slice none 0 0) := by rw [hq.cell 34]; rfl
          have c256 : wr.cell? ⟨q, 256, none⟩ = some (.slice (some ⟨gt, 0, none⟩) 0 2) := by rw [hq.cell 256]; rfl
          have d0 : wr.cell? ⟨gt, 0, none⟩ = some (.string ⟨#[]⟩) := by rw [ho.cell 0]; rfl
          have f34 := hq.frozen 34
          have f256 := hq.frozen 256
          have g0 := ho.frozen 0
          have e34 : (((⟨#[34]⟩ : ByteArray)[0]'(by decide)).toNat : Int) = 34 := rfl
          have hch := chr_rep 34 34 rfl
          have hsb := sb_rep ⟨#[92, 34]⟩
          have hnil := fun (W : World) (a : Option Addr) (n c : Nat) => Lib.run_eql_slice_nil (P := Tryz.prog) W 93 5 a n c 0 0 Tryz.underlying93
          have Ho := Lib.hid ho
          have Hq := Lib.hid hq
          have Hbr := Lib.hid hbr
          have hq1 := hq.lt
          have hg1 := ho.lt
          have hlq := lts hq.lt
          have hlg := lts ho.lt
          clear hq ho hbr
          go_wp2_with fail
          go_roundw
          case rel =>
            refine .inr (.inl ⟨rfl, Lib.hid ⟨_, (((((((Hq.out.far (p := ⟨gt, 0, none⟩) hqg _).setQ 256 _ _ (RC_256 _ _ _ _)).setQ 34 _ _ (RC_34 _ _ _ _)).alloc _).alloc _).alloc _).drew), bys_new _ [92, 34] _ _ _ _ _ (by simp), (((((((Ho.out.setQ 0 _ _ rfl).far (p := ⟨q, 256, none⟩) hgq _).far (p := ⟨q, 34, none⟩) hgq _).alloc _).alloc _).alloc _).drew), ?_⟩⟩)
            have hbr := Hbr.out
            (repeat' (first | (with_reducible exact Below.refl _ _) | (with_reducible assumption) | (with_reducible refine balloc ?_ _) | (with_reducible refine Below.drew ?_) | (with_reducible refine bset ?_ ?_ _) | (with_reducible refine bstep ?_ (by with_reducible assumption)) | (with_reducible refine bturn ?_ (by with_reducible assumption) ?_) | go_size))
          case measure => simp [intOf]
        · obtain ⟨p, hq, hp, ho, hbr⟩ := HB2.out
          obtain ⟨g1, c1, rfl, hp⟩ := hp
          have n1 : g1 ≠ q := by
            rintro rfl
            have h := hp 0 _ rfl
            rw [hq.cell 0, RC_get _ _ _ 0 (by decide)] at h
            simp at h
          have n2 : g1 ≠ gt := by
            rintro rfl
            have h := hp 0 _ rfl
            rw [ho.cell 0] at h
            simp at h
          have Hp := Lib.hid hp
          have t0 := keep1 hbr s0
          have t1 := keep1 hbr s1
          have t2 := keep1 hbr s2
          have t3 := keep1 hbr s3
          have c92 : wr.cell? ⟨q, 92, none⟩ = some (.slice none 0 0) := by rw [hq.cell 92]; rfl
          have c256 : wr.cell? ⟨q, 256, none⟩ = some (.slice (some ⟨gt, 0, none⟩) 1 2) := by rw [hq.cell 256]; rfl
          have d1 : wr.cell? ⟨gt, 1, none⟩ = some (.string ⟨#[]⟩) := by rw [ho.cell 1]; rfl
          have f92 := hq.frozen 92
          have f256 := hq.frozen 256
          have g0 := ho.frozen 1
          have e92 : (((⟨#[92]⟩ : ByteArray)[0]'(by decide)).toNat : Int) = 92 := rfl
          have hch := chr_rep 92 92 rfl
          have hsb := sb_rep ⟨#[92, 92]⟩
          have hnil := fun (W : World) (a : Option Addr) (n c : Nat) => Lib.run_eql_slice_nil (P := Tryz.prog) W 93 5 a n c 0 0 Tryz.underlying93
          have Ho := Lib.hid ho
          have Hq := Lib.hid hq
          have Hbr := Lib.hid hbr
          have hq1 := hq.lt
          have hg1 := ho.lt
          have hlq := lts hq.lt
          have hlg := lts ho.lt
          clear hq ho hbr hp
          go_wp2_with fail
          go_roundw
          case rel =>
            refine .inr (.inr ⟨rfl, Lib.hid ⟨⟨_, _, gt, 2, (((((((Hq.out.far (p := ⟨gt, 1, none⟩) hqg _).setQ 256 _ _ (RC_256 _ _ _ _)).setQ 92 _ _ (RC_92 _ _ _ _)).alloc _).alloc _).alloc _).drew), ⟨g1, c1, rfl, fun i x hx => keep1 (Below.drew (Below.alloc (Below.alloc (Below.alloc (Below.refl _ _) (by simp) _) (by first | (simp; done) | (simp; omega)) _) (by first | (simp; done) | (simp; omega)) _)) ?_⟩, bys_new _ [92, 92] _ _ _ _ _ (by simp), ?_⟩, ?_⟩⟩)
            · rw [World.cell?_setCell_other _ _ _ _ (by simp [n1]), World.cell?_setCell_other _ _ _ _ (by simp [n1]), World.cell?_setCell_other _ _ _ _ (by simp [n2])]
              exact Hp.out i x hx
            · exact ss_two ((((((((Ho.out.setQ 1 _ _ rfl).far (p := ⟨q, 256, none⟩) hgq _).far (p := ⟨q, 92, none⟩) hgq _).alloc _).alloc _).alloc _).drew))
            · have hbr := Hbr.out
              (repeat' (first | (with_reducible exact Below.refl _ _) | (with_reducible assumption) | (with_reducible refine balloc ?_ _) | (with_reducible refine Below.drew ?_) | (with_reducible refine bset ?_ ?_ _) | (with_reducible refine bstep ?_ (by with_reducible assumption)) | (with_reducible refine bturn ?_ (by with_reducible assumption) ?_) | go_size))
          case measure => simp [intOf]
        · go_wp2_with fail
          go_returns
          exact ⟨q, rfl, HC2.out.1, HC2.out.2⟩
end Go.Proofs.YtkkeplmaphcblaaGreatDoor

namespace Go.Proofs.YtkkeplmaphcblaaGreatDoor
open Go.RowKit

/-- The cells of a Replacer. -/
def RPC (d m : Int) (r o : Value) : Array Value := #[.int .u32 d, .int .i32 m, .int .u32 0, r, o]
theorem built_rp (a : Option Addr) (l c : Nat) : Tryz.prog.built 224 [(2, .slice a l c)] = some (RPC 0 0 .nilIface (.slice a l c)) := by kernel_rfl
theorem info_parts' {t : TypeId} {z : Option Value} {k b : Nat} (h : (Tryz.prog.info? t).map (fun i => (i.zero, i.size, i.bytes)) = some (z, k, b)) : ∃ i, Tryz.prog.info? t = some i ∧ i.zero = z ∧ i.size = k ∧ i.bytes = b := by
  cases hq : Tryz.prog.info? t with
  | none => rw [hq] at h; cases h
  | some i =>
    rw [hq] at h
    have h2 : (i.zero, i.size, i.bytes) = (z, k, b) := by injection h
    exact ⟨i, rfl, congrArg (·.1) h2, congrArg (·.2.1) h2, congrArg (·.2.2) h2⟩

set_option maxHeartbeats 8000000 in
set_option maxRecDepth 100000 in
theorem new_rep (g c : Nat) (w : World) (hS : SS w g repL) :
    Calls Tryz.prog 140 #[.slice (some ⟨g, 0, none⟩) 4 c] w fun e w' => ∃ b g2 c2, e = .returned (.pointer (some ⟨b, 0, none⟩)) ∧ Blk w' b 224 (RPC 0 0 .nilIface (.slice (some ⟨g2, 0, none⟩) 4 c2)) ∧ SS w' g2 repL ∧ w.heap.size ≤ b ∧ Below w.heap.size w w' := by
  obtain ⟨i0, hi, hz0, hz1, hz2⟩ := info_parts' infoStr
  have HS := Lib.hid hS
  clear hS
  go_enter Tryz.func140, Tryz.ntmps140
  go_wp2_with (at_builtin; refine wpList_append_own _ rfl _ _ 29 rfl w.heap.size 9 i0 (.string ⟨#[]⟩) 1 16 Tryz.underlying29 hi hz0 hz1 hz2 rfl (by decide) (.slice none 0 0) 0 [] rfl (World.ownsRow_nil _ _ _ _) ⟨g, 0, none⟩ 4 c (repL.map fun l => Value.string (bs l)) rfl rfl ?c1 ?c2 ?c3 ?c4 ?c5 ?_)
  case c1 =>
    intro j u hj
    rw [List.getElem?_map, Option.map_eq_some_iff] at hj
    obtain ⟨l, hl, rfl⟩ := hj
    rw [show (⟨g, 0, none⟩ : Addr).add j = ⟨g, j, none⟩ by unfold Addr.add; split <;> simp_all]
    exact HS.out j l hl
  case c2 => intro u hu; obtain ⟨l, _, rfl⟩ := List.mem_map.1 hu; rfl
  case c3 => unfold maxLen; omega
  case c4 => omega
  case c5 => exact Nat.le_refl _
  intro v w1 h1 h2 h3
  have hb : Below w.heap.size w w1 := ⟨h2.os, h2.tape, h2.output, h2.size, fun k hk => h2.block k hk (by rintro ⟨⟩)⟩
  obtain ⟨g2, c2, rfl, hs2⟩ : ∃ g2 c2, v = .slice (some ⟨g2, 0, none⟩) 4 c2 ∧ SS w1 g2 repL := by
    rcases h1.2 with ⟨_, h0⟩ | ⟨g2, cap, cur, hv, _, _, _, _, _⟩
    · cases h0
    · refine ⟨g2, cap, hv, fun j l hl => ?_⟩
      have := h1.cells (g := g2) (by rw [hv]; rfl) j (.string (bs l)) (by rw [List.getElem?_map, hl]; rfl)
      rw [show (⟨g2, 0, none⟩ : Addr).add j = ⟨g2, j, none⟩ by unfold Addr.add; split <;> simp_all] at this
      exact this
  have Hb := Lib.hid hb
  have Hs := Lib.hid hs2
  have hbd := fun W => run_build W 224 _ _ (built_rp (some ⟨g2, 0, none⟩) 4 c2)
  clear h1 h2 h3 hb hs2
  go_wp2_with fail
  go_returns
  exact ⟨_, g2, c2, rfl, Blk.new' _ _ _ rfl, Hs.out.step (by have := Hb.out; exact (Below.refl _ _).alloc (Nat.le_refl _) _), Hb.out.size, by have hb := Hb.out; (repeat' (first | (with_reducible exact Below.refl _ _) | (with_reducible assumption) | (with_reducible refine balloc ?_ _) | (with_reducible refine Below.drew ?_) | (with_reducible refine bset ?_ ?_ _) | (with_reducible refine bstep ?_ (by with_reducible assumption)) | (with_reducible refine bturn ?_ (by with_reducible assumption) ?_) | go_size))⟩

theorem ByS.far {w : World} {b : Nat} {d m : Int} {r o : Value} {p : Value} {x : UInt8} {l : Bs} (h : ByS w p (x :: l)) (hb : Blk w b 224 (RPC d m r o)) (i : Nat) (u : Value) : ByS (w.setCell ⟨b, i, none⟩ u) p (x :: l) := by
  obtain ⟨g, c, rfl, hc⟩ := h
  have n : g ≠ b := by
    rintro rfl
    have h := hc 0 _ rfl
    rw [hb.cell 0] at h
    simp [RPC] at h
  exact ⟨g, c, rfl, fun j y hy => by rw [World.cell?_setCell_other _ _ _ _ (by simp [n])]; exact hc j y hy⟩
theorem RB.far {w : World} {b q : Nat} {d m : Int} {r o : Value} (h : RB w q) (hb : Blk w b 224 (RPC d m r o)) (i : Nat) (u : Value) : RB (w.setCell ⟨b, i, none⟩ u) q := by
  obtain ⟨p, r', gt, ct, h0, h1, h2, h3⟩ := h
  have n1 : q ≠ b := by
    rintro rfl
    have h := Option.some.inj (h0.symm.trans hb)
    injection h with e1 e2
    exact absurd e2 (by decide)
  have n2 : gt ≠ b := by
    rintro rfl
    have h := h3 0 _ rfl
    rw [hb.cell 0] at h
    simp [RPC] at h
  exact ⟨p, r', gt, ct, h0.far (p := ⟨b, i, none⟩) n1 u, h1.far hb i u, h2.far hb i u, fun j l hl => by rw [World.cell?_setCell_other _ _ _ _ (by simp [n2])]; exact h3 j l hl⟩
/-- What buildOnce leaves. -/
def VP (B b : Nat) (w w' : World) (d m : Int) : Prop := ∃ q, Blk w' b 224 (RPC d m (.iface 282 (.pointer (some ⟨q, 0, none⟩))) (.slice none 0 0)) ∧ RB w' q ∧ Below B w w'
set_option maxHeartbeats 8000000 in
set_option maxRecDepth 100000 in
theorem once_rep (B b g c : Nat) (hB : B ≤ b) (w : World) (hb : Blk w b 224 (RPC 0 1 .nilIface (.slice (some ⟨g, 0, none⟩) 4 c))) (hS : SS w g repL) :
    Calls Tryz.prog 186 #[.pointer (some ⟨b, 0, none⟩)] w fun e w' => e = .returned (.tuple #[]) ∧ VP B b w w' 0 1 := by
  have HK := Lib.hid (build_rep b g c w (by rw [hb.cell 4]; rfl) hS)
  have Hb := Lib.hid hb
  clear hS hb
  go_enter Tryz.func186, Tryz.ntmps186
  go_wp2_with fail
  refine HK.out.mono ?_
  rintro _ w1 ⟨q, rfl, hq, hw⟩
  have hb1 := Hb.out.step hw
  have hlt := hb1.lt
  have hlts := lts hlt
  have c3 : w1.cell? ⟨b, 3, none⟩ = some .nilIface := by rw [hb1.cell 3]; rfl
  have c4 : w1.cell? ⟨b, 4, none⟩ = some (.slice (some ⟨g, 0, none⟩) 4 c) := by rw [hb1.cell 4]; rfl
  have z3 := hb1.frozen 3
  have z4 := hb1.frozen 4
  have Hq := Lib.hid hq
  have Hw := Lib.hid hw
  have Hb1 := Lib.hid hb1
  clear hq hw hb1
  go_wp2_with fail
  go_end0
  have k1 := Hb1.out.setQ 3 (.iface 282 (.pointer (some ⟨q, 0, none⟩))) _ rfl
  refine ⟨rfl, q, k1.setQ 4 _ _ rfl, (Hq.out.far Hb1.out 3 _).far k1 4 _, ?_⟩
  exact ((Hw.out.mono (by have := Hb.out.lt; omega)).setCell hB _).setCell hB _
end Go.Proofs.YtkkeplmaphcblaaGreatDoor

namespace Go.Proofs.YtkkeplmaphcblaaGreatDoor

def escC (c : UInt8) : Bs := if c = 92 then [92, 92] else if c = 34 then [92, 34] else [c]
def escB : Bs → Bs
  | [] => []
  | c :: l => escC c ++ escB l
theorem escB_app (a b : Bs) : escB (a ++ b) = escB a ++ escB b := by
  induction a with
  | nil => rfl
  | cons c l ih => simp only [List.cons_append, escB, ih, List.append_assoc]
theorem escB_take (s : Bs) (k : Nat) (h : k < s.length) : escB (s.take (k + 1)) = escB (s.take k) ++ escC (s[k]'h) := by
  have h1 : s.take (k + 1) = s.take k ++ [s[k]'h] := by rw [List.take_add_one, List.getElem?_eq_getElem h]; rfl
  rw [h1, escB_app]
  simp [escB]
theorem escC_len (c : UInt8) : (escC c).length = 1 + (if c = 34 then 1 else 0) + (if c = 92 then 1 else 0) := by
  unfold escC
  by_cases h1 : c = 92
  · subst h1; simp
  · by_cases h2 : c = 34
    · subst h2; simp
    · simp [h1, h2]
theorem escB_len (l : Bs) : (escB l).length = l.length + l.count 34 + l.count 92 := by
  induction l with
  | nil => rfl
  | cons c l ih =>
    simp only [escB, List.length_append, escC_len, ih, List.length_cons, List.count_cons, beq_iff_eq]
    by_cases h1 : c = 34 <;> by_cases h2 : c = 92 <;> simp [h1, h2] <;> omega
theorem escB_le (l : Bs) (k : Nat) : (escB (l.take k)).length ≤ (escB l).length := by
  have h : escB l = escB (l.take k) ++ escB (l.drop k) := by rw [← escB_app, List.take_append_drop]
  rw [h, List.length_append]
  omega
theorem escB_two (l : Bs) : (escB l).length ≤ 2 * l.length := by
  induction l with
  | nil => simp [escB]
  | cons c l ih =>
    simp only [escB, List.length_append, escC_len, List.length_cons]
    by_cases h1 : c = 34
    · subst h1; simp; omega
    · by_cases h2 : c = 92
      · subst h2; simp; omega
      · simp [h1, h2]; omega
theorem escC_same {c : UInt8} (h1 : c ≠ 34) (h2 : c ≠ 92) : escC c = [c] := by simp [escC, h1, h2]
theorem escB_same : ∀ (l : Bs), l.count 34 = 0 → l.count 92 = 0 → escB l = l
  | [], _, _ => rfl
  | c :: l, h1, h2 => by
    rw [List.count_cons] at h1 h2
    have e1 : c ≠ 34 := fun e => by subst e; simp at h1
    have e2 : c ≠ 92 := fun e => by subst e; simp at h2
    rw [escB, escC_same e1 e2, escB_same l (by omega) (by omega)]
    rfl
/-- How long a text becomes, of its bytes up to a place and the rest as they are. -/
theorem escB_at (l : Bs) (k : Nat) (h : k < l.length) : (escB (l.take k)).length + (escC (l[k]'h)).length ≤ (escB l).length := by
  have h1 := escB_le l (k + 1)
  rw [escB_take l k h, List.length_append] at h1
  exact h1
end Go.Proofs.YtkkeplmaphcblaaGreatDoor

namespace Go.Proofs.YtkkeplmaphcblaaGreatDoor
open Go.RowKit

def bvs (l : Bs) : List Value := l.map fun x => Value.int .u8 (x.toNat : Int)
/-- The cells of the row that is being filled. -/
def bufC (l : Bs) (N : Nat) : List Value := bvs l ++ List.replicate (N - l.length) (.int .u8 0)
theorem bvs_len (l : Bs) : (bvs l).length = l.length := by simp [bvs]
theorem buf_set (l : Bs) (N : Nat) (x : UInt8) (h : l.length < N) : (bufC l N).toArray.setIfInBounds l.length (.int .u8 (x.toNat : Int)) = (bufC (l ++ [x]) N).toArray := by
  apply Array.toList_inj.1
  rw [Array.toList_setIfInBounds]
  unfold bufC
  have h2 : N - l.length = (N - (l ++ [x]).length) + 1 := by rw [List.length_append]; simp; omega
  rw [h2, List.replicate_succ]
  have h3 : l.length = (bvs l).length + 0 := by rw [bvs_len]; rfl
  conv => lhs; rw [h3]
  rw [List.set_append_right _ _ (by omega)]
  simp [bvs]
theorem made_buf (N : Nat) : madeCells (Value.int .u8 0).cells (N * 1) = (bufC [] N).toArray := by
  apply Array.ext
  · simp [size_madeCells, bufC, bvs]
  · intro i h1 h2
    rw [size_madeCells] at h1
    simp [madeCells, bufC, bvs, Value.cells, Nat.mod_one]
theorem buf_end (l : Bs) : bufC l l.length = bvs l := by simp [bufC]
theorem buf_at (l : Bs) (N i : Nat) (h1 : l.length ≤ i) (h2 : i < N) : (bufC l N).toArray[i]? = some (.int .u8 0) := by
  rw [List.getElem?_toArray]
  unfold bufC
  rw [List.getElem?_append_right (by rw [bvs_len]; exact h1), bvs_len, List.getElem?_replicate]
  rw [if_pos (by omega)]
theorem run_neq_nil (w : World) (a : Option Addr) (n c : Nat) : (binOp .neq 93 (.slice a n c) (.slice none 0 0)).run Tryz.prog w = .ok (.bool (!a.isNone)) w := by
  simp only [binOp]
  simp [Op.equal, Op.maxDepth, Lib.run_equalIn_slice_nil w 9999 93 5 a n c 0 0 Tryz.underlying93]
theorem buf_two (l : Bs) (N : Nat) (x y : UInt8) (h : l.length + 2 ≤ N) : (bufC l N).take l.length ++ [.int .u8 (x.toNat : Int), .int .u8 (y.toNat : Int)] ++ (bufC l N).drop (l.length + 2) = bufC (l ++ [x, y]) N := by
  unfold bufC
  have h1 : (bvs l ++ List.replicate (N - l.length) (Value.int .u8 0)).take l.length = bvs l := by rw [← bvs_len l, List.take_left']; rfl
  have h2 : (bvs l ++ List.replicate (N - l.length) (Value.int .u8 0)).drop (l.length + 2) = List.replicate (N - (l.length + 2)) (.int .u8 0) := by
    rw [List.drop_append, bvs_len, List.drop_eq_nil_of_le (by rw [bvs_len]; omega), List.drop_replicate]
    simp
    omega
  rw [h1, h2]
  simp [bvs]
theorem copy_buf (W w0 : World) (B bb jn N g1 c1 : Nat) (l : Bs) (x y : UInt8) (X Y : Int) (hX : (x.toNat : Int) = X) (hY : (y.toNat : Int) = Y) (hl : l.length = jn) (u0 : W.cell? ⟨g1, 0, none⟩ = some (.int .u8 X)) (u1 : W.cell? ⟨g1, 1, none⟩ = some (.int .u8 Y))
    (hB : Blk W bb 5 (bufC l N).toArray) (hj : jn + 2 ≤ N) (hb : Below B w0 W) (hBb : B ≤ bb) :
    ∃ W2, (Builtin.copy_ #[93, 93] 3 #[.slice (some ⟨bb, jn, none⟩) (N - jn) (N - jn), .slice (some ⟨g1, 0, none⟩) 2 c1]).run Tryz.prog W = .ok (.int .i64 2) W2 ∧ Blk W2 bb 5 (bufC (l ++ [x, y]) N).toArray ∧ Below B w0 W2 := by
  obtain ⟨i, hi, _, h2, _⟩ := info_parts' infoU8
  subst hX hY hl
  have hr := run_copy_row (P := Tryz.prog) W 93 93 3 5 bb l.length (N - l.length) (N - l.length) ⟨g1, 0, none⟩ 2 c1 (bufC l N).toArray 5 [.int .u8 (x.toNat : Int), .int .u8 (y.toNat : Int)] Tryz.underlying93 (by rw [hi]; exact congrArg some h2) hB (by
      show 2 = Nat.min 2 (N - l.length)
      exact (Nat.min_eq_left (by omega)).symm) (fun j v hv => by
      match j, hv with
      | 0, hv => cases hv; exact u0
      | 1, hv => cases hv; exact u1) (by
      have h3 : (bufC l N).length = N := by
        unfold bufC
        rw [List.length_append, bvs_len, List.length_replicate]
        omega
      simp only [List.length_cons, List.length_nil, List.size_toArray]
      omega) (fun v hv => by simp at hv; rcases hv with rfl | rfl <;> rfl)
  refine ⟨_, hr, ?_, below_setRow hb hBb _⟩
  have he := buf_two l N x y (by omega)
  simp only [List.length_cons, List.length_nil] at *
  rw [he]
  exact setRow_heap _ _ _ _ _ _ hB
theorem mk_buf (N : Nat) (hN : N ≤ 16000000) (w : World) : (Instr.makeSlice 93 (.int .i64 (N : Int)) (.int .i64 (N : Int))).run Tryz.prog w = .ok (.slice (some ⟨w.heap.size, 0, none⟩) N N) (w.alloc (.cells (bufC [] N).toArray 5)) := by
  obtain ⟨i, hi, h1, h2, h3⟩ := info_parts' infoU8
  have hr := run_makeSlice w 93 5 i (.int .u8 0) Tryz.underlying93 hi h1 .i64 .i64 (N : Int) (N : Int) (by omega) (by omega) (by rw [h2]; simp; omega) (by rw [h3]; simp; omega) (by omega)
  rw [h2, Int.toNat_natCast, made_buf] at hr
  exact hr

theorem rb_get {w : World} {q : Nat} {p r t : Value} (h : Blk w q 281 (RC p r t)) (x : Nat) (hx : x < 257) : w.cell? ⟨q, x, none⟩ = some (if x = 256 then t else if x = 92 then r else if x = 34 then p else .slice none 0 0) := by
  rw [h.cell x, RC_get p r t x hx]

set_option maxHeartbeats 16000000 in
set_option maxRecDepth 100000 in
theorem brep_big (q : Nat) (s : ByteArray) (hs : s.size ≤ 4000000) (h16 : 16 ≤ s.size) (w : World) (hR : RB w q) :
    Calls Tryz.prog 317 #[.pointer (some ⟨q, 0, none⟩), .string s] w fun e w' => e = .returned (.string (bs (escB s.data.toList))) ∧ Below w.heap.size w w' := by
  obtain ⟨p, r, gt, ct, hq, hp, hr, hS⟩ := hR
  obtain ⟨g1, c1, rfl, hp⟩ := hp
  obtain ⟨g2, c2, rfl, hr⟩ := hr
  have c256 : w.cell? ⟨q, 256, none⟩ = some (.slice (some ⟨gt, 0, none⟩) 2 ct) := by rw [rb_get hq 256 (by decide)]; rfl
  have c34 : w.cell? ⟨q, 34, none⟩ = some (.slice (some ⟨g1, 0, none⟩) 2 c1) := by rw [rb_get hq 34 (by decide)]; rfl
  have c92 : w.cell? ⟨q, 92, none⟩ = some (.slice (some ⟨g2, 0, none⟩) 2 c2) := by rw [rb_get hq 92 (by decide)]; rfl
  have t0 : w.cell? ⟨gt, 0, none⟩ = some (.string ⟨#[34]⟩) := hS 0 _ rfl
  have t1 : w.cell? ⟨gt, 1, none⟩ = some (.string ⟨#[92]⟩) := hS 1 _ rfl
  have HC := Lib.hid (fun x hx => rb_get hq x hx)
  have Hp := Lib.hid hp
  have Hr := Lib.hid hr
  have hsl : s.data.toList.length = s.size := by simp
  obtain ⟨k34, hk34⟩ : ∃ k, s.data.toList.count 34 = k := ⟨_, rfl⟩
  obtain ⟨k92, hk92⟩ : ∃ k, s.data.toList.count 92 = k := ⟨_, rfl⟩
  obtain ⟨N, hN⟩ : ∃ N, s.size + k34 + k92 = N := ⟨_, rfl⟩
  have HN : Hid ((escB s.data.toList).length = N ∧ s.data.toList.count 34 = k34 ∧ s.data.toList.count 92 = k92) := Lib.hid ⟨by rw [escB_len, hk34, hk92, hsl, hN], hk34, hk92⟩
  have hNs : N ≤ 2 * s.size := by
    have h1 := escB_two s.data.toList
    rw [HN.out.1, hsl] at h1
    exact h1
  have h1634 : k34 ≤ s.size := by rw [← hk34, ← hsl]; exact List.count_le_length
  have h1692 : k92 ≤ s.size := by rw [← hk92, ← hsl]; exact List.count_le_length
  have H34 := Lib.hid (fun W => Tryz.strings_Count_one s 34 W)
  have H92 := Lib.hid (fun W => Tryz.strings_Count_one s 92 W)
  simp only [Lib.countByte, hk34, hk92] at H34 H92
  clear hq hp hr hS hk34 hk92
  have m16 : (16 : Int) ≤ (s.size : Int) := by omega
  have e34 : (((⟨#[34]⟩ : ByteArray)[0]'(by decide)).toNat : Int) = 34 := rfl
  have e92 : (((⟨#[92]⟩ : ByteArray)[0]'(by decide)).toNat : Int) = 92 := rfl
  obtain ⟨m1, hm1⟩ : ∃ m, s.size + k34 = m := ⟨_, rfl⟩
  have i1 : (s.size : Int) + (k34 : Int) = (m1 : Int) := by omega
  have i2 : (m1 : Int) + (k92 : Int) = (N : Int) := by omega
  have v1 : IntKind.i64.wrap (m1 : Int) = (m1 : Int) := IntWalk.i64_in _ (by omega)
  have v2 : IntKind.i64.wrap (N : Int) = (N : Int) := IntWalk.i64_in _ (by omega)
  have v3 : IntKind.i64.wrap (k34 : Int) = (k34 : Int) := IntWalk.i64_in _ (by omega)
  have v4 : IntKind.i64.wrap (k92 : Int) = (k92 : Int) := IntWalk.i64_in _ (by omega)
  have Hm1 := Lib.hid hm1
  have HhN := Lib.hid hN
  clear hm1 hN
  go_enter Tryz.func317, Tryz.ntmps317
  go_wp2_with fail
  go_loopw [32, 5, 6, 8, 9] (fun i n f _ _ wr => ((i = .int .i64 0 ∧ n = .int .i64 (s.size : Int) ∧ f = .bool false) ∨ (i = .int .i64 1 ∧ n = .int .i64 (m1 : Int) ∧ f = .bool (decide (0 < k34))) ∨ (i = .int .i64 2 ∧ n = .int .i64 (N : Int) ∧ f = .bool (decide (0 < k34 + k92)))) ∧ Below w.heap.size w wr) (fun i _ _ _ _ _ => 2 - (intOf i).toNat)
  case atStart => exact ⟨.inl ⟨rfl, rfl, rfl⟩, Below.refl _ _⟩
  case round =>
    obtain ⟨hrel, hbr⟩ := hrel
    replace c34 := keep1 hbr c34
    replace c92 := keep1 hbr c92
    replace t0 := keep1 hbr t0
    replace t1 := keep1 hbr t1
    have Hbr := Lib.hid hbr
    clear hbr c256
    rcases hrel with ⟨rfl, rfl, rfl⟩ | ⟨rfl, rfl, rfl⟩ | ⟨rfl, rfl, rfl⟩
    · by_cases h0 : k34 = 0
      · have hm : s.size = m1 := by have := Hm1.out; omega
        have HM := Lib.hid hm
        have k0 : (k34 : Int) = 0 := by omega
        have Hh0 := Lib.hid h0
        clear hm h0 i1 v3
        go_wp2_with fail
        refine (H34.out _).mono ?_
        rintro _ _ ⟨rfl, rfl⟩
        go_wp2_with fail
        go_roundw
        case rel => exact ⟨.inr (.inl ⟨rfl, by rw [HM.out], by rw [Hh0.out]; rfl⟩), Hbr.out⟩
        case measure => simp [intOf]
      · have k0 : ¬ (k34 : Int) = 0 := by omega
        have Hd : Hid (decide (0 < k34) = true) := Lib.hid (decide_eq_true (by omega))
        clear h0
        go_wp2_with fail
        refine (H34.out _).mono ?_
        rintro _ _ ⟨rfl, rfl⟩
        go_wp2_with fail
        go_quiet (fail)
        go_wp2_with fail
        go_roundw
        case rel => exact ⟨.inr (.inl ⟨rfl, rfl, by rw [Hd.out]⟩), bdrewN Hbr.out _⟩
        case measure => simp [intOf]
    · by_cases h0 : k92 = 0
      · have hm : m1 = N := by have := Hm1.out; have := HhN.out; omega
        have HM := Lib.hid hm
        have k0 : (k92 : Int) = 0 := by omega
        have Hh0 := Lib.hid h0
        clear hm h0 i2 v4
        go_wp2_with fail
        refine (H92.out _).mono ?_
        rintro _ _ ⟨rfl, rfl⟩
        go_wp2_with fail
        go_roundw
        case rel => exact ⟨.inr (.inr ⟨rfl, by rw [HM.out], by rw [Hh0.out, Nat.add_zero]⟩), Hbr.out⟩
        case measure => simp [intOf]
      · have k0 : ¬ (k92 : Int) = 0 := by omega
        have Hd : Hid (decide (0 < k34 + k92) = true) := Lib.hid (decide_eq_true (by omega))
        clear h0
        go_wp2_with fail
        refine (H92.out _).mono ?_
        rintro _ _ ⟨rfl, rfl⟩
        go_wp2_with fail
        go_quiet (fail)
        go_wp2_with fail
        go_roundw
        case rel => exact ⟨.inr (.inr ⟨rfl, rfl, by rw [Hd.out]⟩), bdrewN Hbr.out _⟩
        case measure => simp [intOf]
    · clear i1 i2 v1 v3 v4 e34 e92 m16 t0 t1
      by_cases hz : k34 + k92 = 0
      · have hd : decide (0 < k34 + k92) = false := decide_eq_false (by omega)
        have HR : Hid (bs (escB s.data.toList) = s) := Lib.hid (by
          have h2 := HN.out.2
          rw [escB_same _ (by omega) (by omega)]
          rfl)
        clear hz
        go_wp2_with fail
        go_returns
        exact ⟨by rw [HR.out]; rfl, Hbr.out⟩
      · have hd : decide (0 < k34 + k92) = true := decide_eq_true (by omega)
        have hmk := mk_buf N (by omega)
        have HB0 := Lib.hid (show Blk (wr.alloc (.cells (bufC [] N).toArray 5)) wr.heap.size 5 (bufC [] N).toArray ∧ Below w.heap.size w (wr.alloc (.cells (bufC [] N).toArray 5)) from ⟨Blk.new _ _ _, Hbr.out.alloc Hbr.out.size _⟩)
        have hge := Hbr.out.size
        clear hz c34 c92
        go_wp2_with fail
        obtain ⟨bb, hbb⟩ : ∃ bb, wr.heap.size = bb := ⟨_, rfl⟩
        simp only [hbb] at HB0 ⊢
        rw [hbb] at hge
        clear hmk hbb Hbr
        go_loopw [14, 13, 15] (fun i j _ wv => ∃ k jn : Nat, k ≤ s.size ∧ i = .int .i64 (k : Int) ∧ j = .int .i64 (jn : Int) ∧ Hid ((escB (s.data.toList.take k)).length = jn ∧ Blk wv bb 5 (bufC (escB (s.data.toList.take k)) N).toArray ∧ Below w.heap.size w wv)) (fun i _ _ _ => s.size - (intOf i).toNat)
        case atStart => exact ⟨0, 0, by omega, rfl, rfl, Lib.hid ⟨rfl, HB0.out⟩⟩
        case round =>
          obtain ⟨k, jn, hk, rfl, rfl, HR⟩ := hrel
          by_cases hlt : k < s.size
          · have hlt2 : k < s.data.toList.length := by rw [hsl]; exact hlt
            have hget : s.data.toList[k]'hlt2 = s[k]'hlt := by simp [ByteArray.getElem_eq_getElem_data]
            have hst := escB_take s.data.toList k hlt2
            have hle := escB_at s.data.toList k hlt2
            rw [hget] at hst hle
            rw [HN.out.1, HR.out.1] at hle
            obtain ⟨k1, hk1⟩ : ∃ k1, k + 1 = k1 := ⟨_, rfl⟩
            have w4 : (k : Int) + 1 = (k1 : Int) := by omega
            have w5 : IntKind.i64.wrap (k1 : Int) = (k1 : Int) := IntWalk.i64_in _ (by omega)
            rw [hk1] at hst
            by_cases h34 : s[k]'hlt = 34
            · have dummy := True.intro
              have y1 : (((s[k]'hlt).toNat : Nat) : Int) = 34 := by rw [h34]; rfl
              rw [h34, show escC 34 = [92, 34] from rfl] at hst hle
              have hj2 : jn + 2 ≤ N := hle
              obtain ⟨_, hB, hbr⟩ := HR.out
              have d0 : wr.cell? ⟨q, 34, none⟩ = some (.slice (some ⟨g1, 0, none⟩) 2 c1) := keep1 hbr (by have := HC.out 34 (by decide); simpa using this)
              have u0 : wr.cell? ⟨g1, 0, none⟩ = some (.int .u8 92) := keep1 hbr (Hp.out 0 92 rfl)
              have u1 : wr.cell? ⟨g1, 1, none⟩ = some (.int .u8 34) := keep1 hbr (Hp.out 1 34 rfl)
              have hjN : (jn : Int) ≤ (N : Int) := by omega
              obtain ⟨j2, hj3⟩ : ∃ j, jn + 2 = j := ⟨_, rfl⟩
              have w6 : (jn : Int) + 2 = (j2 : Int) := by omega
              have w7 : IntKind.i64.wrap (j2 : Int) = (j2 : Int) := IntWalk.i64_in _ (by omega)
              have hnil := fun (W : World) (a : Option Addr) (n c : Nat) => run_neq_nil W a n c
              obtain ⟨W2, hcp, hB2, hbr2⟩ := copy_buf wr.drew w w.heap.size bb jn N g1 c1 _ 92 34 92 34 rfl rfl HR.out.1 u0 u1 hB.drew hj2 hbr.drew hge
              have hne : ¬ N = jn := by omega
              have HE := Lib.hid (show (escB (s.data.toList.take k1)).length = j2 ∧ Blk W2 bb 5 (bufC (escB (s.data.toList.take k1)) N).toArray ∧ Below w.heap.size w W2 from ⟨by rw [hst, List.length_append, HR.out.1]; exact hj3, by rw [hst]; exact hB2, hbr2⟩)
              clear hst hle hB hbr hB2 hbr2 hget h34 HC
              go_wp2_with fail
              go_region
              go_wp2_with fail
              go_roundw
              case rel => exact ⟨k1, j2, by omega, rfl, rfl, HE⟩
              case measure => simp [intOf]; omega
            · by_cases h92 : s[k]'hlt = 92
              · have dummy := True.intro
                have y1 : (((s[k]'hlt).toNat : Nat) : Int) = 92 := by rw [h92]; rfl
                rw [h92, show escC 92 = [92, 92] from rfl] at hst hle
                have hj2 : jn + 2 ≤ N := hle
                obtain ⟨_, hB, hbr⟩ := HR.out
                have d0 : wr.cell? ⟨q, 92, none⟩ = some (.slice (some ⟨g2, 0, none⟩) 2 c2) := keep1 hbr (by have := HC.out 92 (by decide); simpa using this)
                have u0 : wr.cell? ⟨g2, 0, none⟩ = some (.int .u8 92) := keep1 hbr (Hr.out 0 92 rfl)
                have u1 : wr.cell? ⟨g2, 1, none⟩ = some (.int .u8 92) := keep1 hbr (Hr.out 1 92 rfl)
                have hjN : (jn : Int) ≤ (N : Int) := by omega
                obtain ⟨j2, hj3⟩ : ∃ j, jn + 2 = j := ⟨_, rfl⟩
                have w6 : (jn : Int) + 2 = (j2 : Int) := by omega
                have w7 : IntKind.i64.wrap (j2 : Int) = (j2 : Int) := IntWalk.i64_in _ (by omega)
                have hnil := fun (W : World) (a : Option Addr) (n c : Nat) => run_neq_nil W a n c
                obtain ⟨W2, hcp, hB2, hbr2⟩ := copy_buf wr.drew w w.heap.size bb jn N g2 c2 _ 92 92 92 92 rfl rfl HR.out.1 u0 u1 hB.drew hj2 hbr.drew hge
                have hne : ¬ N = jn := by omega
                have HE := Lib.hid (show (escB (s.data.toList.take k1)).length = j2 ∧ Blk W2 bb 5 (bufC (escB (s.data.toList.take k1)) N).toArray ∧ Below w.heap.size w W2 from ⟨by rw [hst, List.length_append, HR.out.1]; exact hj3, by rw [hst]; exact hB2, hbr2⟩)
                clear hst hle hB hbr hB2 hbr2 hget h92 HC
                go_wp2_with fail
                go_region
                go_wp2_with fail
                go_roundw
                case rel => exact ⟨k1, j2, by omega, rfl, rfl, HE⟩
                case measure => simp [intOf]; omega
              · rw [escC_same h34 h92] at hst hle
                have hj2 : jn + 1 ≤ N := hle
                obtain ⟨cv, hcv⟩ : ∃ cv : Nat, (s[k]'hlt).toNat = cv := ⟨_, rfl⟩
                have y1 : (((s[k]'hlt).toNat : Nat) : Int) = (cv : Int) := by rw [hcv]
                have y2 : cv < 256 := by rw [← hcv]; exact UInt8.toNat_lt _
                have y3 : (cv : Int) < 256 := by omega
                have n34 : ¬ cv = 34 := fun e => h34 (UInt8.toNat_inj.1 (hcv.trans e))
                have n92 : ¬ cv = 92 := fun e => h92 (UInt8.toNat_inj.1 (hcv.trans e))
                have n256 : ¬ cv = 256 := by omega
                obtain ⟨_, hB, hbr⟩ := HR.out
                have d0 : wr.cell? ⟨q, cv, none⟩ = some (.slice none 0 0) := keep1 hbr (by have := HC.out cv (by omega); rw [if_neg n256, if_neg n92, if_neg n34] at this; exact this)
                have b0 : wr.cell? ⟨bb, jn, none⟩ = some (.int .u8 0) := by rw [hB.cell jn]; exact buf_at _ _ _ (by have := HR.out.1; omega) (by omega)
                have z0 := hB.frozen jn
                have hjN : (jn : Int) < (N : Int) := by omega
                have hjN' : jn < N := by omega
                obtain ⟨j2, hj3⟩ : ∃ j, jn + 1 = j := ⟨_, rfl⟩
                have w6 : (jn : Int) + 1 = (j2 : Int) := by omega
                have w7 : IntKind.i64.wrap (j2 : Int) = (j2 : Int) := IntWalk.i64_in _ (by omega)
                have hnil := fun (W : World) (a : Option Addr) (n c : Nat) => run_neq_nil W a n c
                have HE := Lib.hid (show (escB (s.data.toList.take k1)).length = j2 ∧ Blk (wr.setCell ⟨bb, jn, none⟩ (.int .u8 (cv : Int))) bb 5 (bufC (escB (s.data.toList.take k1)) N).toArray ∧ Below w.heap.size w (wr.setCell ⟨bb, jn, none⟩ (.int .u8 (cv : Int))) from
                  ⟨by rw [hst, List.length_append, HR.out.1]; exact hj3, by rw [hst]; exact hB.setQ jn _ _ (by rw [← hcv]; have := buf_set (escB (s.data.toList.take k)) N (s[k]'hlt) (by have := HR.out.1; omega); rw [HR.out.1] at this; exact this), hbr.setCell hge _⟩)
                clear hst hle hB hbr hget h34 h92 HC hcv n34 n92 n256
                go_wp2_with fail
                go_roundw
                case rel => exact ⟨k1, j2, by omega, rfl, rfl, HE⟩
                case measure => simp [intOf]; omega
          · obtain rfl : k = s.size := by omega
            have htk : s.data.toList.take s.size = s.data.toList := List.take_of_length_le (by rw [hsl]; exact Nat.le_refl _)
            obtain ⟨he, hB, hbr⟩ := HR.out
            rw [htk] at he hB
            have hcv : (convert 93 9 (.slice (some ⟨bb, 0, none⟩) N N)).run Tryz.prog wr = .ok (.string (bs (escB s.data.toList))) wr := by
              have h := run_convert_bytes_back (P := Tryz.prog) wr 93 9 5 ⟨bb, 0, none⟩ N (escB s.data.toList) Tryz.underlying93 Tryz.underlying5 Tryz.underlying9 (fun j hj => by
                rw [show (⟨bb, 0, none⟩ : Addr).add j = ⟨bb, j, none⟩ by unfold Addr.add; split <;> simp_all]
                rw [hB.cell j, List.getElem?_toArray]
                unfold bufC
                rw [List.getElem?_append_left (by rw [bvs_len]; exact hj)]
                simp [bvs, hj])
              rw [HN.out.1] at h
              exact h
            have Hbr := Lib.hid hbr
            clear he hB hbr htk HN
            go_wp2_with fail
            go_returns
            exact ⟨rfl, Hbr.out⟩

set_option maxHeartbeats 16000000 in
set_option maxRecDepth 100000 in
theorem brep_small (q : Nat) (s : ByteArray) (hs : s.size ≤ 4000000) (h16 : ¬ 16 ≤ s.size) (w : World) (hR : RB w q) :
    Calls Tryz.prog 317 #[.pointer (some ⟨q, 0, none⟩), .string s] w fun e w' => e = .returned (.string (bs (escB s.data.toList))) ∧ Below w.heap.size w w' := by
  obtain ⟨p, r, gt, ct, hq, hp, hr, hS⟩ := hR
  obtain ⟨g1, c1, rfl, hp⟩ := hp
  obtain ⟨g2, c2, rfl, hr⟩ := hr
  have c256 : w.cell? ⟨q, 256, none⟩ = some (.slice (some ⟨gt, 0, none⟩) 2 ct) := by rw [rb_get hq 256 (by decide)]; rfl
  have c34 : w.cell? ⟨q, 34, none⟩ = some (.slice (some ⟨g1, 0, none⟩) 2 c1) := by rw [rb_get hq 34 (by decide)]; rfl
  have c92 : w.cell? ⟨q, 92, none⟩ = some (.slice (some ⟨g2, 0, none⟩) 2 c2) := by rw [rb_get hq 92 (by decide)]; rfl
  have t0 : w.cell? ⟨gt, 0, none⟩ = some (.string ⟨#[34]⟩) := hS 0 _ rfl
  have t1 : w.cell? ⟨gt, 1, none⟩ = some (.string ⟨#[92]⟩) := hS 1 _ rfl
  have HC := Lib.hid (fun x hx => rb_get hq x hx)
  have Hp := Lib.hid hp
  have Hr := Lib.hid hr
  have hsl : s.data.toList.length = s.size := by simp
  obtain ⟨k34, hk34⟩ : ∃ k, s.data.toList.count 34 = k := ⟨_, rfl⟩
  obtain ⟨k92, hk92⟩ : ∃ k, s.data.toList.count 92 = k := ⟨_, rfl⟩
  obtain ⟨N, hN⟩ : ∃ N, s.size + k34 + k92 = N := ⟨_, rfl⟩
  have HN : Hid ((escB s.data.toList).length = N ∧ s.data.toList.count 34 = k34 ∧ s.data.toList.count 92 = k92) := Lib.hid ⟨by rw [escB_len, hk34, hk92, hsl, hN], hk34, hk92⟩
  have hNs : N ≤ 2 * s.size := by
    have h1 := escB_two s.data.toList
    rw [HN.out.1, hsl] at h1
    exact h1
  have h1634 : k34 ≤ s.size := by rw [← hk34, ← hsl]; exact List.count_le_length
  have h1692 : k92 ≤ s.size := by rw [← hk92, ← hsl]; exact List.count_le_length
  have H34 := Lib.hid (fun W => Tryz.strings_Count_one s 34 W)
  have H92 := Lib.hid (fun W => Tryz.strings_Count_one s 92 W)
  simp only [Lib.countByte, hk34, hk92] at H34 H92
  clear hq hp hr hS hk34 hk92
  have m16 : ¬ (16 : Int) ≤ (s.size : Int) := by omega
  have hnil := fun (W : World) (a : Option Addr) (n c : Nat) => run_neq_nil W a n c
  have v2 : IntKind.i64.wrap (N : Int) = (N : Int) := IntWalk.i64_in _ (by omega)
  have HhN := Lib.hid hN
  clear hN H34 H92 t0 t1
  go_enter Tryz.func317, Tryz.ntmps317
  go_wp2_with fail
  go_loopw [10, 5, 6, 11] (fun i n f _ wr => ∃ (k nn : Nat) (fl : Bool), k ≤ s.size ∧ i = .int .i64 (k : Int) ∧ n = .int .i64 (nn : Int) ∧ f = .bool fl ∧ Hid (nn + k = (escB (s.data.toList.take k)).length + s.size ∧ fl = decide (0 < (s.data.toList.take k).count 34 + (s.data.toList.take k).count 92)) ∧ Below w.heap.size w wr) (fun i _ _ _ _ => s.size - (intOf i).toNat)
  case atStart => exact ⟨0, s.size, false, by omega, rfl, rfl, rfl, Lib.hid ⟨by simp [escB], by simp⟩, Below.refl _ _⟩
  case round =>
    obtain ⟨k, nn, fl, hk, rfl, rfl, rfl, HR, hbr⟩ := hrel
    replace c34 := keep1 hbr c34
    replace c92 := keep1 hbr c92
    have Hbr := Lib.hid hbr
    by_cases hlt : k < s.size
    · have hlt2 : k < s.data.toList.length := by rw [hsl]; exact hlt
      have hget : s.data.toList[k]'hlt2 = s[k]'hlt := by simp [ByteArray.getElem_eq_getElem_data]
      have hst := escB_take s.data.toList k hlt2
      have hc1 : s.data.toList.take (k + 1) = s.data.toList.take k ++ [s.data.toList[k]'hlt2] := by rw [List.take_add_one, List.getElem?_eq_getElem hlt2]; rfl
      rw [hget] at hst hc1
      obtain ⟨k1, hk1⟩ : ∃ k1, k + 1 = k1 := ⟨_, rfl⟩
      have w4 : (k : Int) + 1 = (k1 : Int) := by omega
      have w5 : IntKind.i64.wrap (k1 : Int) = (k1 : Int) := IntWalk.i64_in _ (by omega)
      rw [hk1] at hst hc1
      by_cases h34 : s[k]'hlt = 34
      · have dummy := hbr
        clear hbr
        have y1 : (((s[k]'hlt).toNat : Nat) : Int) = 34 := by rw [h34]; rfl
        rw [h34] at hst hc1
        have hle : nn ≤ 2 * s.size := by have := HR.out.1; have h2 := escB_two (s.data.toList.take k); rw [List.length_take] at h2; omega
        obtain ⟨n2, hn2⟩ : ∃ n, nn + 1 = n := ⟨_, rfl⟩
        have w6 : (nn : Int) + 1 = (n2 : Int) := by omega
        have w7 : IntKind.i64.wrap (n2 : Int) = (n2 : Int) := IntWalk.i64_in _ (by omega)
        have HE := Lib.hid (show n2 + k1 = (escB (s.data.toList.take k1)).length + s.size ∧ true = decide (0 < (s.data.toList.take k1).count 34 + (s.data.toList.take k1).count 92) from
          ⟨by rw [hst, List.length_append, show (escC 34).length = 2 from rfl]; have := HR.out.1; omega, by
            rw [hc1, List.count_append, List.count_append]
            exact (decide_eq_true (by first | (simp; done) | (simp; omega))).symm⟩)
        clear hst hc1 hget h34 HC
        go_wp2_with fail
        go_roundw
        case rel => exact ⟨k1, n2, true, by omega, rfl, rfl, rfl, HE, Hbr.out⟩
        case measure => simp [intOf]; omega
      · by_cases h92 : s[k]'hlt = 92
        · have dummy := hbr
          clear hbr
          have y1 : (((s[k]'hlt).toNat : Nat) : Int) = 92 := by rw [h92]; rfl
          rw [h92] at hst hc1
          have hle : nn ≤ 2 * s.size := by have := HR.out.1; have h2 := escB_two (s.data.toList.take k); rw [List.length_take] at h2; omega
          obtain ⟨n2, hn2⟩ : ∃ n, nn + 1 = n := ⟨_, rfl⟩
          have w6 : (nn : Int) + 1 = (n2 : Int) := by omega
          have w7 : IntKind.i64.wrap (n2 : Int) = (n2 : Int) := IntWalk.i64_in _ (by omega)
          have HE := Lib.hid (show n2 + k1 = (escB (s.data.toList.take k1)).length + s.size ∧ true = decide (0 < (s.data.toList.take k1).count 34 + (s.data.toList.take k1).count 92) from
            ⟨by rw [hst, List.length_append, show (escC 92).length = 2 from rfl]; have := HR.out.1; omega, by
              rw [hc1, List.count_append, List.count_append]
              exact (decide_eq_true (by first | (simp; done) | (simp; omega))).symm⟩)
          clear hst hc1 hget h92 HC
          go_wp2_with fail
          go_roundw
          case rel => exact ⟨k1, n2, true, by omega, rfl, rfl, rfl, HE, Hbr.out⟩
          case measure => simp [intOf]; omega
        · rw [escC_same h34 h92] at hst
          obtain ⟨cv, hcv⟩ : ∃ cv : Nat, (s[k]'hlt).toNat = cv := ⟨_, rfl⟩
          have y1 : (((s[k]'hlt).toNat : Nat) : Int) = (cv : Int) := by rw [hcv]
          have y2 : cv < 256 := by rw [← hcv]; exact UInt8.toNat_lt _
          have y3 : (cv : Int) < 256 := by omega
          have n34 : ¬ cv = 34 := fun e => h34 (UInt8.toNat_inj.1 (hcv.trans e))
          have n92 : ¬ cv = 92 := fun e => h92 (UInt8.toNat_inj.1 (hcv.trans e))
          have n256 : ¬ cv = 256 := by omega
          have d0 : wr.cell? ⟨q, cv, none⟩ = some (.slice none 0 0) := keep1 hbr (by have := HC.out cv (by omega); rw [if_neg n256, if_neg n92, if_neg n34] at this; exact this)
          have HE := Lib.hid (show nn + k1 = (escB (s.data.toList.take k1)).length + s.size ∧ fl = decide (0 < (s.data.toList.take k1).count 34 + (s.data.toList.take k1).count 92) from
            ⟨by rw [hst, List.length_append, show [s[k]'hlt].length = 1 from rfl]; have := HR.out.1; omega, by
              rw [hc1, List.count_append, List.count_append, HR.out.2, List.count_singleton, List.count_singleton]
              have e1 : (s[k]'hlt == 34) = false := by simpa using h34
              have e2 : (s[k]'hlt == 92) = false := by simpa using h92
              rw [e1, e2]
              simp⟩)
          clear hst hc1 hget h34 h92 HC hcv n34 n92 n256 hbr
          go_wp2_with fail
          go_roundw
          case rel => exact ⟨k1, nn, fl, by omega, rfl, rfl, rfl, HE, Hbr.out⟩
          case measure => simp [intOf]; omega
    · obtain rfl : k = s.size := by omega
      have htk : s.data.toList.take s.size = s.data.toList := List.take_of_length_le (by rw [hsl]; exact Nat.le_refl _)
      obtain ⟨he1, he2⟩ := HR.out
      rw [htk] at he1 he2
      rw [HN.out.1] at he1
      rw [HN.out.2.1, HN.out.2.2] at he2
      obtain rfl : N = nn := by omega
      subst he2
      clear he1 HR htk hbr hnil m16
      by_cases hz : k34 + k92 = 0
      · have hd : decide (0 < k34 + k92) = false := decide_eq_false (by omega)
        have HR : Hid (bs (escB s.data.toList) = s) := Lib.hid (by
          have h2 := HN.out.2
          rw [escB_same _ (by omega) (by omega)]
          rfl)
        clear hz
        go_wp2_with fail
        go_returns
        exact ⟨by rw [HR.out]; rfl, Hbr.out⟩
      · have hd : decide (0 < k34 + k92) = true := decide_eq_true (by omega)
        have hmk := mk_buf N (by omega)
        have HB0 := Lib.hid (show Blk (wr.alloc (.cells (bufC [] N).toArray 5)) wr.heap.size 5 (bufC [] N).toArray ∧ Below w.heap.size w (wr.alloc (.cells (bufC [] N).toArray 5)) from ⟨Blk.new _ _ _, Hbr.out.alloc Hbr.out.size _⟩)
        have hge := Hbr.out.size
        clear hz c34 c92
        go_wp2_with fail
        obtain ⟨bb, hbb⟩ : ∃ bb, wr.heap.size = bb := ⟨_, rfl⟩
        simp only [hbb] at HB0 ⊢
        rw [hbb] at hge
        clear hmk hbb Hbr
        go_loopw [14, 13, 15] (fun i j _ wv => ∃ k jn : Nat, k ≤ s.size ∧ i = .int .i64 (k : Int) ∧ j = .int .i64 (jn : Int) ∧ Hid ((escB (s.data.toList.take k)).length = jn ∧ Blk wv bb 5 (bufC (escB (s.data.toList.take k)) N).toArray ∧ Below w.heap.size w wv)) (fun i _ _ _ => s.size - (intOf i).toNat)
        case atStart => exact ⟨0, 0, by omega, rfl, rfl, Lib.hid ⟨rfl, HB0.out⟩⟩
        case round =>
          obtain ⟨k, jn, hk, rfl, rfl, HR⟩ := hrel
          by_cases hlt : k < s.size
          · have hlt2 : k < s.data.toList.length := by rw [hsl]; exact hlt
            have hget : s.data.toList[k]'hlt2 = s[k]'hlt := by simp [ByteArray.getElem_eq_getElem_data]
            have hst := escB_take s.data.toList k hlt2
            have hle := escB_at s.data.toList k hlt2
            rw [hget] at hst hle
            rw [HN.out.1, HR.out.1] at hle
            obtain ⟨k1, hk1⟩ : ∃ k1, k + 1 = k1 := ⟨_, rfl⟩
            have w4 : (k : Int) + 1 = (k1 : Int) := by omega
            have w5 : IntKind.i64.wrap (k1 : Int) = (k1 : Int) := IntWalk.i64_in _ (by omega)
            rw [hk1] at hst
            by_cases h34 : s[k]'hlt = 34
            · have dummy := True.intro
              have y1 : (((s[k]'hlt).toNat : Nat) : Int) = 34 := by rw [h34]; rfl
              rw [h34, show escC 34 = [92, 34] from rfl] at hst hle
              have hj2 : jn + 2 ≤ N := hle
              obtain ⟨_, hB, hbr⟩ := HR.out
              have d0 : wr.cell? ⟨q, 34, none⟩ = some (.slice (some ⟨g1, 0, none⟩) 2 c1) := keep1 hbr (by have := HC.out 34 (by decide); simpa using this)
              have u0 : wr.cell? ⟨g1, 0, none⟩ = some (.int .u8 92) := keep1 hbr (Hp.out 0 92 rfl)
              have u1 : wr.cell? ⟨g1, 1, none⟩ = some (.int .u8 34) := keep1 hbr (Hp.out 1 34 rfl)
              have hjN : (jn : Int) ≤ (N : Int) := by omega
              obtain ⟨j2, hj3⟩ : ∃ j, jn + 2 = j := ⟨_, rfl⟩
              have w6 : (jn : Int) + 2 = (j2 : Int) := by omega
              have w7 : IntKind.i64.wrap (j2 : Int) = (j2 : Int) := IntWalk.i64_in _ (by omega)
              have hnil := fun (W : World) (a : Option Addr) (n c : Nat) => run_neq_nil W a n c
              obtain ⟨W2, hcp, hB2, hbr2⟩ := copy_buf wr.drew w w.heap.size bb jn N g1 c1 _ 92 34 92 34 rfl rfl HR.out.1 u0 u1 hB.drew hj2 hbr.drew hge
              have hne : ¬ N = jn := by omega
              have HE := Lib.hid (show (escB (s.data.toList.take k1)).length = j2 ∧ Blk W2 bb 5 (bufC (escB (s.data.toList.take k1)) N).toArray ∧ Below w.heap.size w W2 from ⟨by rw [hst, List.length_append, HR.out.1]; exact hj3, by rw [hst]; exact hB2, hbr2⟩)
              clear hst hle hB hbr hB2 hbr2 hget h34 HC
              go_wp2_with fail
              go_region
              go_wp2_with fail
              go_roundw
              case rel => exact ⟨k1, j2, by omega, rfl, rfl, HE⟩
              case measure => simp [intOf]; omega
            · by_cases h92 : s[k]'hlt = 92
              · have dummy := True.intro
                have y1 : (((s[k]'hlt).toNat : Nat) : Int) = 92 := by rw [h92]; rfl
                rw [h92, show escC 92 = [92, 92] from rfl] at hst hle
                have hj2 : jn + 2 ≤ N := hle
                obtain ⟨_, hB, hbr⟩ := HR.out
                have d0 : wr.cell? ⟨q, 92, none⟩ = some (.slice (some ⟨g2, 0, none⟩) 2 c2) := keep1 hbr (by have := HC.out 92 (by decide); simpa using this)
                have u0 : wr.cell? ⟨g2, 0, none⟩ = some (.int .u8 92) := keep1 hbr (Hr.out 0 92 rfl)
                have u1 : wr.cell? ⟨g2, 1, none⟩ = some (.int .u8 92) := keep1 hbr (Hr.out 1 92 rfl)
                have hjN : (jn : Int) ≤ (N : Int) := by omega
                obtain ⟨j2, hj3⟩ : ∃ j, jn + 2 = j := ⟨_, rfl⟩
                have w6 : (jn : Int) + 2 = (j2 : Int) := by omega
                have w7 : IntKind.i64.wrap (j2 : Int) = (j2 : Int) := IntWalk.i64_in _ (by omega)
                have hnil := fun (W : World) (a : Option Addr) (n c : Nat) => run_neq_nil W a n c
                obtain ⟨W2, hcp, hB2, hbr2⟩ := copy_buf wr.drew w w.heap.size bb jn N g2 c2 _ 92 92 92 92 rfl rfl HR.out.1 u0 u1 hB.drew hj2 hbr.drew hge
                have hne : ¬ N = jn := by omega
                have HE := Lib.hid (show (escB (s.data.toList.take k1)).length = j2 ∧ Blk W2 bb 5 (bufC (escB (s.data.toList.take k1)) N).toArray ∧ Below w.heap.size w W2 from ⟨by rw [hst, List.length_append, HR.out.1]; exact hj3, by rw [hst]; exact hB2, hbr2⟩)
                clear hst hle hB hbr hB2 hbr2 hget h92 HC
                go_wp2_with fail
                go_region
                go_wp2_with fail
                go_roundw
                case rel => exact ⟨k1, j2, by omega, rfl, rfl, HE⟩
                case measure => simp [intOf]; omega
              · rw [escC_same h34 h92] at hst hle
                have hj2 : jn + 1 ≤ N := hle
                obtain ⟨cv, hcv⟩ : ∃ cv : Nat, (s[k]'hlt).toNat = cv := ⟨_, rfl⟩
                have y1 : (((s[k]'hlt).toNat : Nat) : Int) = (cv : Int) := by rw [hcv]
                have y2 : cv < 256 := by rw [← hcv]; exact UInt8.toNat_lt _
                have y3 : (cv : Int) < 256 := by omega
                have n34 : ¬ cv = 34 := fun e => h34 (UInt8.toNat_inj.1 (hcv.trans e))
                have n92 : ¬ cv = 92 := fun e => h92 (UInt8.toNat_inj.1 (hcv.trans e))
                have n256 : ¬ cv = 256 := by omega
                obtain ⟨_, hB, hbr⟩ := HR.out
                have d0 : wr.cell? ⟨q, cv, none⟩ = some (.slice none 0 0) := keep1 hbr (by have := HC.out cv (by omega); rw [if_neg n256, if_neg n92, if_neg n34] at this; exact this)
                have b0 : wr.cell? ⟨bb, jn, none⟩ = some (.int .u8 0) := by rw [hB.cell jn]; exact buf_at _ _ _ (by have := HR.out.1; omega) (by omega)
                have z0 := hB.frozen jn
                have hjN : (jn : Int) < (N : Int) := by omega
                have hjN' : jn < N := by omega
                obtain ⟨j2, hj3⟩ : ∃ j, jn + 1 = j := ⟨_, rfl⟩
                have w6 : (jn : Int) + 1 = (j2 : Int) := by omega
                have w7 : IntKind.i64.wrap (j2 : Int) = (j2 : Int) := IntWalk.i64_in _ (by omega)
                have hnil := fun (W : World) (a : Option Addr) (n c : Nat) => run_neq_nil W a n c
                have HE := Lib.hid (show (escB (s.data.toList.take k1)).length = j2 ∧ Blk (wr.setCell ⟨bb, jn, none⟩ (.int .u8 (cv : Int))) bb 5 (bufC (escB (s.data.toList.take k1)) N).toArray ∧ Below w.heap.size w (wr.setCell ⟨bb, jn, none⟩ (.int .u8 (cv : Int))) from
                  ⟨by rw [hst, List.length_append, HR.out.1]; exact hj3, by rw [hst]; exact hB.setQ jn _ _ (by rw [← hcv]; have := buf_set (escB (s.data.toList.take k)) N (s[k]'hlt) (by have := HR.out.1; omega); rw [HR.out.1] at this; exact this), hbr.setCell hge _⟩)
                clear hst hle hB hbr hget h34 h92 HC hcv n34 n92 n256
                go_wp2_with fail
                go_roundw
                case rel => exact ⟨k1, j2, by omega, rfl, rfl, HE⟩
                case measure => simp [intOf]; omega
          · obtain rfl : k = s.size := by omega
            have htk : s.data.toList.take s.size = s.data.toList := List.take_of_length_le (by rw [hsl]; exact Nat.le_refl _)
            obtain ⟨he, hB, hbr⟩ := HR.out
            rw [htk] at he hB
            have hcv : (convert 93 9 (.slice (some ⟨bb, 0, none⟩) N N)).run Tryz.prog wr = .ok (.string (bs (escB s.data.toList))) wr := by
              have h := run_convert_bytes_back (P := Tryz.prog) wr 93 9 5 ⟨bb, 0, none⟩ N (escB s.data.toList) Tryz.underlying93 Tryz.underlying5 Tryz.underlying9 (fun j hj => by
                rw [show (⟨bb, 0, none⟩ : Addr).add j = ⟨bb, j, none⟩ by unfold Addr.add; split <;> simp_all]
                rw [hB.cell j, List.getElem?_toArray]
                unfold bufC
                rw [List.getElem?_append_left (by rw [bvs_len]; exact hj)]
                simp [bvs, hj])
              rw [HN.out.1] at h
              exact h
            have Hbr := Lib.hid hbr
            clear he hB hbr htk HN
            go_wp2_with fail
            go_returns
            exact ⟨rfl, Hbr.out⟩
end Go.Proofs.YtkkeplmaphcblaaGreatDoor

namespace Go.Proofs.YtkkeplmaphcblaaGreatDoor
open Go.RowKit

theorem brep_any (q : Nat) (s : ByteArray) (hs : s.size ≤ 4000000) (w : World) (hR : RB w q) :
    Calls Tryz.prog 317 #[.pointer (some ⟨q, 0, none⟩), .string s] w fun e w' => e = .returned (.string (bs (escB s.data.toList))) ∧ Below w.heap.size w w' := by
  by_cases h : 16 ≤ s.size
  · exact brep_big q s hs h w hR
  · exact brep_small q s hs h w hR

set_option maxHeartbeats 8000000 in
set_option maxRecDepth 100000 in
theorem replace_any (B b g c : Nat) (hB : B ≤ b) (s : ByteArray) (hs : s.size ≤ 4000000) (w : World) (hBw : B ≤ w.heap.size) (hb : Blk w b 224 (RPC 0 0 .nilIface (.slice (some ⟨g, 0, none⟩) 4 c))) (hS : SS w g repL) :
    Calls Tryz.prog 141 #[.pointer (some ⟨b, 0, none⟩), .string s] w fun e w' => e = .returned (.string (bs (escB s.data.toList))) ∧ Below B w w' := by
  have hbg : g ≠ b := by
    rintro rfl
    have h := hS 0 _ rfl
    rw [hb.cell 0] at h
    simp [RPC] at h
  have hb1 : Blk (w.setCell ⟨b, 1, none⟩ (.int .i32 1)) b 224 (RPC 0 1 .nilIface (.slice (some ⟨g, 0, none⟩) 4 c)) := hb.setQ 1 _ _ rfl
  have hS1 : SS (w.setCell ⟨b, 1, none⟩ (.int .i32 1)) g repL := fun i l hl => by
    rw [World.cell?_setCell_other _ _ _ _ (by simp [hbg])]
    exact hS i l hl
  have HD := Lib.hid (do_once b (fun w1 => VP B b (w.setCell ⟨b, 1, none⟩ (.int .i32 1)) w1 0 1) w (by rw [hb.cell 0]; rfl) (by rw [hb.cell 1]; rfl) (hb.frozen 1)
    (Lib.hid (once_rep B b g c hB _ hb1 hS1)) (Lib.hid (fun w1 h => by
      obtain ⟨q, h1, _⟩ := h
      exact ⟨by rw [h1.cell 0]; rfl, by rw [h1.cell 1]; rfl, h1.frozen 0, h1.frozen 1⟩)))
  clear hb hS hb1 hS1 hbg
  go_enter Tryz.func141, Tryz.ntmps141
  go_wp2_with fail
  refine HD.out.mono ?_
  rintro _ w2 ⟨rfl, w1, ⟨q, h1, hq, hb1⟩, rfl⟩
  have h2 : Blk ((w1.drew.setCell ⟨b, 0, none⟩ (.int .u32 1)).setCell ⟨b, 1, none⟩ (.int .i32 0)) b 224 (RPC 1 0 (.iface 282 (.pointer (some ⟨q, 0, none⟩))) (.slice none 0 0)) := (h1.drew.setQ 0 _ _ rfl).setQ 1 _ _ rfl
  have hq2 : RB ((w1.drew.setCell ⟨b, 0, none⟩ (.int .u32 1)).setCell ⟨b, 1, none⟩ (.int .i32 0)) q := (RB.far (w := w1.drew) hq h1.drew 0 _).far (h1.drew.setQ 0 _ _ rfl) 1 _
  have hb2 : Below B w ((w1.drew.setCell ⟨b, 0, none⟩ (.int .u32 1)).setCell ⟨b, 1, none⟩ (.int .i32 0)) := (((((Below.refl B w).setCell hB _).trans hb1).drew).setCell hB _).setCell hB _
  have hsz := hb2.size
  generalize (w1.drew.setCell ⟨b, 0, none⟩ (.int .u32 1)).setCell ⟨b, 1, none⟩ (.int .i32 0) = W2 at h2 hq2 hb2 hsz ⊢
  have c3 : W2.cell? ⟨b, 3, none⟩ = some (.iface 282 (.pointer (some ⟨q, 0, none⟩))) := by rw [h2.cell 3]; rfl
  have HR := Lib.hid (brep_any q s hs W2 hq2)
  have Hb2 := Lib.hid hb2
  clear h1 hq hb1 h2 hq2 hb2
  go_wp2_with fail
  refine HR.out.mono ?_
  rintro _ w3 ⟨rfl, hw3⟩
  go_wp2_with fail
  go_returns
  exact ⟨rfl, Hb2.out.trans (hw3.mono (by omega))⟩
end Go.Proofs.YtkkeplmaphcblaaGreatDoor

namespace Go.Proofs.YtkkeplmaphcblaaGreatDoor
open Go.RowKit
attribute [local go_sem high] run_tok_eql run_tok_neq tkeq_self

theorem ss_new (W : World) (n : Nat) (hn : n = W.heap.size) : SS (W.alloc (.cells #[.string ⟨#[92]⟩, .string ⟨#[92, 92]⟩, .string ⟨#[34]⟩, .string ⟨#[92, 34]⟩] 9)) n repL := by
  subst hn
  have h := Blk.new W 9 #[.string ⟨#[92]⟩, .string ⟨#[92, 92]⟩, .string ⟨#[34]⟩, .string ⟨#[92, 34]⟩]
  intro i l hl
  match i, hl with
  | 0, hl => cases hl; exact h.cell 0
  | 1, hl => cases hl; exact h.cell 1
  | 2, hl => cases hl; exact h.cell 2
  | 3, hl => cases hl; exact h.cell 3
end Go.Proofs.YtkkeplmaphcblaaGreatDoor

namespace Go.Proofs.YtkkeplmaphcblaaGreatDoor
open Go.RowKit
attribute [local go_sem high] run_tok_eql run_tok_neq tkeq_self

theorem ss_newd (W : World) (n : Nat) (hn : n = W.heap.size) : SS (W.alloc (.cells #[.string ⟨#[92]⟩, .string ⟨#[92, 92]⟩, .string ⟨#[34]⟩, .string ⟨#[92, 34]⟩] 9)).drew n repL := ss_new W n hn
end Go.Proofs.YtkkeplmaphcblaaGreatDoor

namespace Go.Proofs.YtkkeplmaphcblaaGreatDoor.bulks

theorem one_le {H : Type} (d : DataW H) : 1 ≤ Rows.uptoBulk d := by
  cases d with
  | lit l => cases l <;> simp [Rows.uptoBulk]
  | nil => simp [Rows.uptoBulk]
  | ptr d => simp [Rows.uptoBulk]
  | slice elems spare => simp [Rows.uptoBulk]
  | agg parts => simp [Rows.uptoBulk]
  | iface t d => simp [Rows.uptoBulk]
  | map entries => simp [Rows.uptoBulk]
  | held h => simp [Rows.uptoBulk]

/-- a part's bulk is at most the whole's -/
theorem part_le {H : Type} {d : DataW H} {l : List (DataW H)} (h : d ∈ l) : Rows.uptoBulk d ≤ Rows.uptoBulkAll l := by
  induction l with
  | nil => cases h
  | cons x r ih =>
    simp only [Rows.uptoBulkAll]
    cases List.mem_cons.1 h with
    | inl e => subst e; omega
    | inr e => have := ih e; omega

theorem append {H : Type} (l r : List (DataW H)) : Rows.uptoBulkAll (l ++ r) = Rows.uptoBulkAll l + Rows.uptoBulkAll r := by
  induction l with
  | nil => simp [Rows.uptoBulkAll]
  | cons x l ih => simp only [List.cons_append, Rows.uptoBulkAll, ih]; omega

/-- so many values at the most -/
theorem length_le {H : Type} (l : List (DataW H)) : l.length ≤ Rows.uptoBulkAll l := by
  induction l with
  | nil => simp [Rows.uptoBulkAll]
  | cons x r ih => have := one_le x; simp only [Rows.uptoBulkAll, List.length_cons]; omega

/-- a slice's places, and what they hold -/
theorem slice_le {H : Type} (elems spare : List (DataW H)) : elems.length + spare.length + 1 ≤ Rows.uptoBulk (.slice elems spare) := by
  have h1 := length_le elems
  have h2 := length_le spare
  simp only [Rows.uptoBulk]
  omega
theorem slice_elems {H : Type} (elems spare : List (DataW H)) : Rows.uptoBulkAll elems + 1 ≤ Rows.uptoBulk (.slice elems spare) := by
  simp only [Rows.uptoBulk]
  omega

/-- a string's letters -/
theorem string_eq {H : Type} (bytes : List UInt8) : Rows.uptoBulk (DataW.lit (H := H) (.string bytes)) = bytes.length + 1 := by
  simp [Rows.uptoBulk]

/-- THE BOUND, as the builder hands it over ('hk') -/
theorem bound {H : Type} {l : List (DataW H)} (hk : Rows.uptoSmall H l = true) : Rows.uptoBulkAll l ≤ 1048576 := by
  simpa [Rows.uptoSmall] using hk

/-- ROOM: a slice of n elements of b bytes, grown by append: below the 2^48 bytes that append, make and a Builder bear. Here n up to 2^21, b up to 4,096: put your own numbers. -/
theorem room {n b : Nat} (hn : n ≤ 2097152) (hb : b ≤ 4096) : (n + n / 4 + 192) * b ≤ 281474976710656 := by
  have h : (n + n / 4 + 192) * b ≤ 2621632 * 4096 := Nat.mul_le_mul (by omega) hb
  omega

end Go.Proofs.YtkkeplmaphcblaaGreatDoor.bulks

namespace Go.Proofs.YtkkeplmaphcblaaGreatDoor
open Go.ChangeShapes Go.WideShapes Go.ChangeAt Go.RowKit Go.Deep

/-- A token of any kind and at any place. -/
structure Ti where
  k : Int
  a : Int
  t : Bs
  n : Int
  s : Int
  m : Int
def Ti.cells (t : Ti) : List Value := [.int .i64 t.k, .int .i64 t.a, .string (bs t.t), .int .i64 t.n, .int .i64 t.s, .int .i64 t.m]
def Tk.i (t : Tk) : Ti := ⟨t.k, t.a, t.t, t.n, t.s, t.m⟩
/-- Such tokens in memory. -/
def TMi (w : World) (A : Option Addr) (L : List Ti) : Prop := ∀ i t, L[i]? = some t → ∃ g o, A = some ⟨g, o, none⟩ ∧ ∀ j v, t.cells[j]? = some v → w.cell? ⟨g, o + i * 6 + j, none⟩ = some v
theorem TMi.step {w w' : World} {A : Option Addr} {L : List Ti} (h : TMi w A L) (hb : Below w.heap.size w w') : TMi w' A L := fun i t ht => by
  obtain ⟨g, o, e, hc⟩ := h i t ht
  exact ⟨g, o, e, fun j v hj => keep1 hb (hc j v hj)⟩
theorem TMi.stepB {w w' : World} {A : Option Addr} {L : List Ti} (h : TMi w A L) (hb : Below w.heap.size w w') : TMi w' A L := h.step hb
theorem TMi.nil (w : World) (A : Option Addr) : TMi w A [] := fun i t h => by simp at h
theorem TMi.take {w : World} {A : Option Addr} {L : List Ti} (h : TMi w A L) (n : Nat) : TMi w A (L.take n) := fun i t ht => h i t (by
  rw [List.getElem?_take] at ht
  split at ht
  · exact ht
  · cases ht)
theorem TM.i {w : World} {A : Option Addr} {L : List Tk} (h : TM w A L) : TMi w A (L.map Tk.i) := fun i t ht => by
  rw [List.getElem?_map, Option.map_eq_some_iff] at ht
  obtain ⟨u, hu, rfl⟩ := ht
  exact h i u hu
theorem tmi_get {w : World} {A : Option Addr} {L : List Ti} (h : TMi w A L) {k : Nat} {t : Ti} (ht : L[k]? = some t) : ∃ g o, A = some ⟨g, o, none⟩ ∧ w.cell? ⟨g, o + k * 6, none⟩ = some (.int .i64 t.k) ∧ w.cell? ⟨g, o + k * 6 + 1, none⟩ = some (.int .i64 t.a) ∧ w.cell? ⟨g, o + k * 6 + 2, none⟩ = some (.string (bs t.t)) ∧ w.cell? ⟨g, o + k * 6 + 3, none⟩ = some (.int .i64 t.n) ∧ w.cell? ⟨g, o + k * 6 + 4, none⟩ = some (.int .i64 t.s) ∧ w.cell? ⟨g, o + k * 6 + 5, none⟩ = some (.int .i64 t.m) := by
  obtain ⟨g, o, e, hc⟩ := h k t ht
  exact ⟨g, o, e, hc 0 _ rfl, hc 1 _ rfl, hc 2 _ rfl, hc 3 _ rfl, hc 4 _ rfl, hc 5 _ rfl⟩

theorem cells_int : Tryz.prog.cellsOf 3 = 1 := by kernel_rfl
theorem cells_string : Tryz.prog.cellsOf 9 = 1 := by kernel_rfl
theorem cells_dec : Tryz.prog.cellsOf 23 = 2 := by kernel_rfl
theorem cells_tok : Tryz.prog.cellsOf 149 = 6 := by kernel_rfl
theorem lit_i64 {n : Int} (h : (Lit.int .i64 n).wf = true) : I64 n := by
  have h2 : (decide (IntKind.i64.min ≤ n) && decide (n ≤ IntKind.i64.max)) = true := h
  simp only [Bool.and_eq_true, decide_eq_true_eq] at h2
  exact h2
structure Ti.Ok (t : Ti) : Prop where
  n : I64 t.n
  s : I64 t.s
  m : I64 t.m

section
variable {H : Type} {enc : TypeId × Value → H} {w : World} {base : Nat} {spare : Nat → Bool} {held : Bool}
set_option maxRecDepth 100000 in
theorem tok_shape {fuel : Nat} {cs : List Value} {x : DataW H × List MemPlace} (h : DataW.trod enc Tryz.prog w base spare held fuel 149 cs = some x) : ∃ v : Ti, cs = v.cells ∧ v.Ok ∧ v.t.length + 1 ≤ Rows.uptoBulk x.1 := by
  obtain ⟨xs, n, _, hxe, hl, hxl, hf⟩ := DataW.trod_struct Tryz.underlying149 h
  rw [cells_tok] at hl
  match cs, hl with
  | [c0, c1, c2, c3, c4, c5], _ =>
    match xs, hxl with
    | [y0, y1, y2, y3, y4], _ =>
      have h0 := hf 0 _ rfl
      have h1 := hf 1 _ rfl
      have h2 := hf 2 _ rfl
      have h3 := hf 3 _ rfl
      have h4 := hf 4 _ rfl
      simp only [cells_int, cells_dec, cells_string, List.drop_zero, List.drop_succ_cons, List.take_succ_cons, List.take_zero, List.getElem?_cons_zero, List.getElem?_cons_succ] at h0 h1 h2 h3 h4
      obtain ⟨k, e0, _, wk⟩ := DataW.trod_int Tryz.underlying3 h0
      obtain ⟨a, e1, _, wa⟩ := DataW.trod_int Tryz.underlying3 h1
      obtain ⟨t, e2, ht, wt⟩ := DataW.trod_string Tryz.underlying9 h2
      obtain ⟨m, e5, _, wm⟩ := DataW.trod_int Tryz.underlying3 h4
      obtain ⟨zs, n', _, _, _, hzl, hg⟩ := DataW.trod_struct Tryz.underlying23 h3
      match zs, hzl with
      | [z0, z1], _ =>
        have g0 := hg 0 _ rfl
        have g1 := hg 1 _ rfl
        simp only [cells_int, List.drop_zero, List.drop_succ_cons, List.take_succ_cons, List.take_zero, List.getElem?_cons_zero, List.getElem?_cons_succ] at g0 g1
        obtain ⟨d, e3, _, wd⟩ := DataW.trod_int Tryz.underlying3 g0
        obtain ⟨s, e4, _, ws⟩ := DataW.trod_int Tryz.underlying3 g1
        cases e0; cases e1; cases e2; cases e3; cases e4; cases e5
        refine ⟨⟨k, a, t.data.toList, d, s, m⟩, rfl, ⟨lit_i64 wd, lit_i64 ws, lit_i64 wm⟩, ?_⟩
        rw [hxe]
        simp only [Rows.uptoBulk]
        have hp : Rows.uptoBulk (y2.1) ≤ Rows.uptoBulkAll ([y0, y1, y2, y3, y4].map (·.1)) := bulks.part_le (by simp)
        have hb : Rows.uptoBulk (y2.1) = t.data.toList.length + 1 := by rw [ht]; exact bulks.string_eq _
        omega

set_option maxRecDepth 100000 in
theorem open_toks {r : Reach} {b0 : Nat} {v : Value} {d : DataW H} {p : List MemPlace} (hv : Value.okWide Tryz.prog w r b0 67 v) (h : DataW.Trod enc Tryz.prog w base spare held 67 v d p) :
    ∃ (A : Option Addr) (c : Nat) (L : List Ti), v = .slice A L.length c ∧ TMi w A L ∧ L.length ≤ c ∧ c ≤ maxLen ∧ (∀ t ∈ L, t.Ok ∧ t.t.length ≤ Rows.uptoBulk d) ∧ L.length ≤ Rows.uptoBulk d := by
  obtain ⟨a0, len, cap, rfl⟩ := okWide_slice Tryz.underlying67 hv
  obtain ⟨fuel, hf⟩ := h
  rcases open_slice Tryz.underlying67 hf with ⟨hcs, _⟩ | ⟨a, len', cap', m, n, D, Pl, hcs, _, hl, hm, hmm, hx, hi⟩
  · simp [Value.cells] at hcs
    obtain ⟨rfl, rfl, rfl⟩ := hcs
    exact ⟨none, 0, [], rfl, TMi.nil _ _, by simp, by simp [maxLen], fun a ha => by simp at ha, by simp⟩
  · simp [Value.cells] at hcs
    obtain ⟨rfl, rfl, rfl⟩ := hcs
    have hlm : len ≤ m := by rw [hmm]; split <;> omega
    have hd : d = .slice ((List.range len).map D) ((List.range (m - len)).map fun j => D (len + j)) := congrArg Prod.fst hx
    have hex : ∀ i, i < len → ∃ v : Ti, (v.Ok ∧ v.t.length ≤ Rows.uptoBulk d) ∧ ∀ j, j < 6 → w.cell? ((a.add (i * 6)).add j) = v.cells[j]? := fun i hil => by
      obtain ⟨cs', hc, ht⟩ := hi i (by omega)
      rw [cells_tok] at hc
      obtain ⟨_, _, hat⟩ := World.cells?_some hc
      obtain ⟨v, rfl, hok, hbk⟩ := tok_shape ht
      refine ⟨v, ⟨hok, ?_⟩, hat⟩
      have h1 : Rows.uptoBulk (D i) ≤ Rows.uptoBulkAll ((List.range len).map D) := bulks.part_le (List.mem_map.2 ⟨i, List.mem_range.2 hil, rfl⟩)
      have h2 := bulks.slice_elems ((List.range len).map D) ((List.range (m - len)).map fun j => D (len + j))
      rw [← hd] at h2
      simp only at hbk
      omega
    haveI : Inhabited Ti := ⟨⟨0, 0, [], 0, 0, 0⟩⟩
    obtain ⟨f, hfv⟩ := choose_lt hex
    refine ⟨some a, cap, (List.range len).map f, by simp, ?_, by simpa using hl, hm, fun x hx => ?_, ?_⟩
    · intro i v hv
      have hil : i < len := by
        have := (List.getElem?_eq_some_iff.1 hv).1
        simpa using this
      have hv' : f i = v := by simpa [hil] using hv
      subst hv'
      have hc := (hfv i hil).2
      have hs : a.spot = none := by
        rcases Option.eq_none_or_eq_some a.spot with h | ⟨y, h⟩
        · exact h
        · exfalso
          have := (hfv 0 (by omega)).2 0 (by omega)
          simp [Addr.add, Ti.cells, World.cell?, h] at this
          split at this <;> simp at this
      obtain ⟨b, o, sp⟩ := a
      simp only at hs
      subst hs
      have e : ∀ j, ((⟨b, o, none⟩ : Addr).add (i * 6)).add j = ⟨b, o + i * 6 + j, none⟩ := fun j => by
        rw [add_add]
        unfold Addr.add
        split
        · next h => simp only [Addr.mk.injEq, and_true, true_and]; omega
        · simp only [Addr.mk.injEq, and_true, true_and]; omega
      refine ⟨b, o, rfl, fun j u hj => ?_⟩
      have hj6 : j < 6 := (List.getElem?_eq_some_iff.1 hj).1
      have := hc j hj6
      rw [e] at this
      rw [this]
      exact hj
    · obtain ⟨i, hi', rfl⟩ := List.mem_map.1 hx
      exact (hfv i (by simpa using hi')).1
    · rw [hd]
      have := bulks.slice_le ((List.range len).map D) ((List.range (m - len)).map fun j => D (len + j))
      simp only [List.length_map, List.length_range] at this ⊢
      omega
end
end Go.Proofs.YtkkeplmaphcblaaGreatDoor

namespace Go.Proofs.YtkkeplmaphcblaaGreatDoor
open Go.RowKit
end Go.Proofs.YtkkeplmaphcblaaGreatDoor

namespace Go.Proofs.YtkkeplmaphcblaaGreatDoor
open Go.RowKit

/-- All texts, if each token has one. -/
def allS : List (Option Bs) → Option (List Bs)
  | [] => some []
  | none :: _ => none
  | some o :: r => (allS r).map (o :: ·)
theorem allS_app : ∀ (a b : List (Option Bs)), allS (a ++ b) = match allS a with | none => none | some P => (allS b).map (P ++ ·)
  | [], b => by
    show allS b = (allS b).map ([] ++ ·)
    cases allS b <;> rfl
  | none :: a, b => rfl
  | some o :: a, b => by
    show (allS (a ++ b)).map (o :: ·) = _
    rw [allS_app a b]
    show _ = match (allS a).map (o :: ·) with | none => none | some P => (allS b).map (P ++ ·)
    cases allS a with
    | none => rfl
    | some P => cases allS b <;> rfl
theorem allS_step {os : List (Option Bs)} {P : List Bs} {k : Nat} {u : Bs} (h : allS (os.take k) = some P) (hk : os[k]? = some (some u)) : allS (os.take (k + 1)) = some (P ++ [u]) := by
  rw [List.take_add_one, hk, allS_app, h]
  rfl
theorem allS_stop {os : List (Option Bs)} {P : List Bs} {k : Nat} (h : allS (os.take k) = some P) (hk : os[k]? = some none) : allS os = none := by
  obtain ⟨hlt, he⟩ := List.getElem?_eq_some_iff.1 hk
  have : os = os.take k ++ (none :: os.drop (k + 1)) := by
    conv => lhs; rw [← List.take_append_drop k os, List.drop_eq_getElem_cons hlt, he]
  rw [this, allS_app, h]
  rfl
theorem allS_len : ∀ {os : List (Option Bs)} {P : List Bs}, allS os = some P → P.length = os.length
  | [], P, h => by cases h; rfl
  | none :: r, P, h => by cases h
  | some o :: r, P, h => by
    have h2 : (allS r).map (o :: ·) = some P := h
    cases hr : allS r with
    | none => rw [hr] at h2; cases h2
    | some Q =>
      rw [hr] at h2
      cases h2
      rw [List.length_cons, List.length_cons, allS_len hr]
theorem tail_snoc (P : List Bs) (u : Bs) : tailB 0 (P ++ [u]) = tailB 0 P ++ (if 0 < P.length then 32 :: u else u) := by
  unfold tailB
  rw [List.zipIdx_append, List.flatMap_append]
  simp
/-- What comes of joining. -/
def joinV (os : List (Option Bs)) : Bs × Int :=
  match allS os with
  | none => ([], 2)
  | some P => if (joinB P).length ≤ 65536 then (joinB P, 0) else ([], 10)

end Go.Proofs.YtkkeplmaphcblaaGreatDoor

namespace Go.Proofs.YtkkeplmaphcblaaGreatDoor

theorem calls_det {P : Program} {f : FuncId} {args : Array Value} {w : World} {v1 v2 : Value} {Q1 Q2 : World → Prop} (hi : P.inits.idxOf? f = none)
    (h1 : Calls P f args w fun e w' => e = .returned v1 ∧ Q1 w') (h2 : Calls P f args w fun e w' => e = .returned v2 ∧ Q2 w') : v1 = v2 := by
  obtain ⟨e1, w1, fr1, ⟨rfl, _⟩, s1, g1, l1⟩ := h1 []
  obtain ⟨e2, w2, fr2, ⟨rfl, _⟩, s2, g2, l2⟩ := h2 []
  have d1 := step_leave_done l1 (by rw [g1]; exact hi)
  have d2 := step_leave_done l2 (by rw [g2]; exact hi)
  obtain ⟨n1, r1⟩ := s1
  obtain ⟨n2, r2⟩ := s2
  have key : ∀ (a b : Nat) (fr fr' : Frame) (u u' : World) (x x' : Value), runN P a (lone (Frame.enter P f args .normal) [] w) = .next (lone fr [] u) → runN P b (lone (Frame.enter P f args .normal) [] w) = .next (lone fr' [] u') → step P (lone fr [] u) = .ended (.done x) u → step P (lone fr' [] u') = .ended (.done x') u' → a ≤ b → x = x' := by
    intro a b fr fr' u u' x x' ra rb da db hab
    obtain ⟨k, rfl⟩ : ∃ k, b = a + k := ⟨b - a, by omega⟩
    rw [runN_add, ra] at rb
    cases k with
    | zero =>
      have h3 : lone fr [] u = lone fr' [] u' := by simpa [runN] using rb
      rw [h3] at da
      rw [da] at db
      injection db with h4 h5
      injection h4
    | succ k =>
      simp [runN, da] at rb
  rcases Nat.le_total n1 n2 with h | h
  · exact key n1 n2 fr1 fr2 w1 w2 v1 v2 r1 r2 d1 d2 h
  · exact (key n2 n1 fr2 fr1 w2 w1 v2 v1 r2 r1 d2 d1 h).symm
end Go.Proofs.YtkkeplmaphcblaaGreatDoor

namespace Go.Proofs.YtkkeplmaphcblaaGreatDoor
open Go.RowKit

/-- A number as a text. -/
def dT (n s : Int) : Bs × Int := if soundS n s = true then (textS (decide (n < 0)) (mag n).toNat s.toNat, 0) else ([], 2)
theorem mag_nat (n : Int) : mag n = ((mag n).toNat : Int) := by unfold mag; split <;> omega
theorem dtext (n s : Int) (hn : I64 n) (hs : I64 s) (w : World) (htab : Lib.TabIs Tryz.prog w "internal/strconv.uint64pow10" .u64 Lib.pow10Tab) :
    Calls Tryz.prog 139 #[.agg #[.int .i64 n, .int .i64 s]] w fun e w' => e = .returned (.tuple #[.string (bs (dT n s).1), .int .i64 (dT n s).2]) ∧ Below w.heap.size w w' := by
  unfold dT
  by_cases h : soundS n s = true
  · rw [if_pos h]
    obtain ⟨b1, b2, _⟩ := sound_bd h
    exact text_any n s (mag n).toNat s.toNat hn (by omega) h (mag_nat n) _ rfl w htab
  · rw [if_neg h]
    exact text_form n s hn hs h w
theorem textU_len {N sc : Nat} (hN : N < 1000000000000) (hs : sc ≤ 6) : (textU N sc).length ≤ 20 := by
  have hW : N / 10 ^ sc < 10 ^ 12 := Nat.lt_of_le_of_lt (Nat.div_le_self _ _) (by omega)
  have hWd := nDigits_le (by decide) hW
  unfold textU
  split
  · rename_i h0; subst h0; simp only [Nat.pow_zero, Nat.div_one] at hWd; rw [Lib.decDigits_length]; omega
  · rw [List.length_append, Lib.decDigits_length, List.length_cons, pd_length]; omega
theorem dT_len (n s : Int) : (dT n s).1.length ≤ 21 := by
  unfold dT
  split
  · rename_i h
    obtain ⟨b1, b2, b3, b4, _⟩ := sound_bd h
    have hm := mag_bd b3 b4
    have hn := mag_nat n
    have h1 := textU_len (N := (mag n).toNat) (sc := s.toNat) (by omega) (by omega)
    show (textS _ _ _).length ≤ 21
    unfold textS
    split
    · rw [List.length_cons]; omega
    · omega
  · simp
end Go.Proofs.YtkkeplmaphcblaaGreatDoor
namespace Go.Proofs.YtkkeplmaphcblaaGreatDoor.Days
open Go.RowKit
theorem texts_len (n : Int) : ∃ (l : Bs) (e : Int), l.length ≤ 10 ∧ (∀ w, Lib.TabIs Tryz.prog w "internal/strconv.uint64pow10" .u64 Lib.pow10Tab → Calls Tryz.prog 142 #[.int .i64 n] w fun x w' => x = .returned (.tuple #[.string (bs l), .int .i64 e]) ∧ Below w.heap.size w w') ∧ (∀ _ : World, True) := by
  by_cases h : n < 0 ∨ 3652058 < n
  · refine ⟨[], 3, by simp, fun w _ => (text_bad n h w).mono ?_, fun _ => trivial⟩
    rintro x w' ⟨rfl, rfl⟩
    exact ⟨rfl, Below.refl _ _⟩
  · obtain ⟨y, m, a, b, c, d, e, f, g⟩ := date_of n (by omega) (by omega)
    exact ⟨_, 0, Nat.le_of_eq (textL_length _ _ _), fun w ht => text_ok n y m (by omega) (by omega) a b c d e f g w ht, fun _ => trivial⟩
end Go.Proofs.YtkkeplmaphcblaaGreatDoor.Days
namespace Go.Proofs.YtkkeplmaphcblaaGreatDoor
open Go.RowKit

/-- A day as a text. -/
noncomputable def yT (n : Int) : Bs × Int := (Classical.choose (Days.texts_len n), Classical.choose (Classical.choose_spec (Days.texts_len n)))
theorem yT_spec (n : Int) : (yT n).1.length ≤ 10 ∧ (∀ w, Lib.TabIs Tryz.prog w "internal/strconv.uint64pow10" .u64 Lib.pow10Tab → Calls Tryz.prog 142 #[.int .i64 n] w fun x w' => x = .returned (.tuple #[.string (bs (yT n).1), .int .i64 (yT n).2]) ∧ Below w.heap.size w w') ∧ (∀ _ : World, True) :=
  Classical.choose_spec (Classical.choose_spec (Days.texts_len n))

/-- What is written for a token, before it is read back. -/
noncomputable def outS (t : Ti) : Option Bs :=
  if t.k = 1 then (if ¬ t.n < 0 ∧ (dT t.n t.s).2 = 0 ∧ t.t = [] ∧ t.m = 0 then some (dT t.n t.s).1 else none)
  else if t.k = 2 then (if t.n = 0 ∧ t.s = 0 ∧ t.m = 0 then some (34 :: (escB t.t ++ [34])) else none)
  else if t.k = 3 then (if (yT t.m).2 = 0 ∧ t.t = [] ∧ t.n = 0 ∧ t.s = 0 then some (64 :: 34 :: ((yT t.m).1 ++ [34])) else none)
  else if t.k = 4 ∨ t.k = 5 then (if t.n = 0 ∧ t.s = 0 ∧ t.m = 0 then some t.t else none)
  else none
def okT (N : Nx) (o : Bs) (t : Ti) : Prop := N.e = 0 ∧ N.n = o.length ∧ N.t.k = t.k ∧ N.t.t = t.t ∧ N.t.n = t.n ∧ N.t.s = t.s ∧ N.t.m = t.m
open Classical in
noncomputable def wrS (x : Lx) (t : Ti) : Option Bs :=
  match outS t with
  | none => none
  | some o => if okT (nextS x (o ++ [32])) o t then some o else none

theorem bs_toList (l : Bs) : (bs l).toList = l := by rw [Lib.toList_data]; rfl
theorem tkeq_iff (k a n s m k' a' n' s' m' : Int) (l l' : Bs) : tkeq k a (bs l) n s m k' a' (bs l') n' s' m' = true ↔ k = k' ∧ a = a' ∧ l = l' ∧ n = n' ∧ s = s' ∧ m = m' := by
  unfold tkeq
  rw [bs_toList, bs_toList]
  simp [and_assoc]
open Classical in
/-- The answer's second part. -/
theorem ok_eq (N : Nx) (o : Bs) (t : Ti) (c : ByteArray) (hc : c.size = o.length) :
    (N.e == 0 && ((N.n : Int) == (c.size : Int) && tkeq N.t.k t.a (bs N.t.t) N.t.n N.t.s N.t.m t.k t.a (bs t.t) t.n t.s t.m)) = decide (okT N o t) := by
  rw [hc]
  by_cases h : okT N o t
  · obtain ⟨h1, h2, h3, h4, h5, h6, h7⟩ := h
    rw [decide_eq_true (show okT N o t from ⟨h1, h2, h3, h4, h5, h6, h7⟩), h1, h2, (tkeq_iff _ _ _ _ _ _ _ _ _ _ _ _).2 ⟨h3, rfl, h4, h5, h6, h7⟩]
    simp
  · rw [decide_eq_false h, Bool.eq_false_iff]
    intro hh
    simp only [Bool.and_eq_true, beq_iff_eq] at hh
    obtain ⟨h1, h2, h3⟩ := hh
    obtain ⟨g1, _, g2, g3, g4, g5⟩ := (tkeq_iff _ _ _ _ _ _ _ _ _ _ _ _).1 h3
    exact h ⟨h1, by omega, g1, g2, g3, g4, g5⟩
theorem bs_app (a b : Bs) : bs a ++ bs b = bs (a ++ b) := by
  apply ByteArray.ext
  apply Array.toList_inj.1
  rw [ByteArray.data_append, Array.toList_append]
  rfl

end Go.Proofs.YtkkeplmaphcblaaGreatDoor

namespace Go.Proofs.YtkkeplmaphcblaaGreatDoor

theorem qS_cut : ∀ (k : Nat) (l m : Bs) (p : Bs × Nat), l.length ≤ k → qS (l ++ m) = some p → p.2 ≤ l.length → qS l = some p
  | _, [], m, p, _, h, hp => by
    have hp0 : p.2 = 0 := by simpa using hp
    have := qS_pos _ m p (Nat.le_refl _) h
    omega
  | 0, c :: r, _, _, hk, _, _ => by simp at hk
  | k + 1, c :: r, m, p, hk, h, hp => by
    rw [List.cons_append, qS_cons] at h
    rw [qS_cons]
    rw [List.length_cons] at hk hp
    by_cases h1 : c = 34
    · rw [if_pos h1] at h ⊢
      exact h
    · rw [if_neg h1] at h ⊢
      by_cases h2 : c = 92
      · rw [if_pos h2] at h ⊢
        cases r with
        | nil =>
          exfalso
          cases m with
          | nil => cases h
          | cons d m2 =>
            simp only [List.nil_append] at h
            by_cases h3 : d = 34 ∨ d = 92
            · rw [if_pos h3] at h
              cases hq : qS m2 with
              | none => rw [hq] at h; cases h
              | some q => rw [hq] at h; cases h; simp at hp
            · rw [if_neg h3] at h; cases h
        | cons d r2 =>
          simp only [List.cons_append] at h ⊢
          rw [List.length_cons] at hk hp
          by_cases h3 : d = 34 ∨ d = 92
          · rw [if_pos h3] at h ⊢
            cases hq : qS (r2 ++ m) with
            | none => rw [hq] at h; cases h
            | some q =>
              rw [hq] at h
              cases h
              simp only at hp
              rw [qS_cut k r2 m q (by omega) hq (by omega)]
              rfl
          · rw [if_neg h3] at h; cases h
      · rw [if_neg h2] at h ⊢
        cases hq : qS (r ++ m) with
        | none => rw [hq] at h; cases h
        | some q =>
          rw [hq] at h
          cases h
          simp only at hp
          rw [qS_cut k r m q (by omega) hq (by omega)]
          rfl
where
  qS_pos : ∀ (k : Nat) (l : Bs) (p : Bs × Nat), l.length ≤ k → qS l = some p → 1 ≤ p.2 := fun k l p hk h => (qS_app k l [] p hk h).2.2

/-- A token that was read up to its end does not hang on the blank. -/
theorem next_cut (x : Lx) (o : Bs) (he : (nextS x (o ++ [32])).e = 0) (hn : (nextS x (o ++ [32])).n = o.length) (ho : o ≠ []) : nextS x o = nextS x (o ++ [32]) := by
  match o, ho with
  | c :: r, _ =>
    rw [List.cons_append] at he hn ⊢
    unfold nextS at he hn ⊢
    simp only at he hn ⊢
    by_cases h1 : figs.contains c = true
    · rw [if_pos h1, if_pos h1]
      exact (num_app x (c :: r) []).symm
    · rw [if_neg h1] at he hn ⊢
      rw [if_neg h1]
      by_cases h2 : c = 34
      · rw [if_pos h2] at he hn ⊢
        rw [if_pos h2]
        unfold strS at he hn ⊢
        cases hq : qS (r ++ [32]) with
        | none => rw [hq] at he; cases he
        | some p =>
          rw [hq] at he hn
          simp only at he hn
          split at he
          · cases he
          · rename_i hc
            rw [if_neg hc] at hn
            simp only [List.length_cons] at hn
            rw [qS_cut r.length r [32] p (Nat.le_refl _) hq (by omega)]
      · rw [if_neg h2] at he hn ⊢
        rw [if_neg h2]
        by_cases h3 : c = 64
        · rw [if_pos h3] at he hn ⊢
          rw [if_pos h3]
          unfold dateS at he hn ⊢
          cases hq : quoD (r ++ [32]) with
          | none => rw [hq] at he; cases he
          | some p =>
            rw [hq] at he hn
            simp only at he hn
            split at he
            · cases he
            · rename_i hc
              rw [if_neg hc] at hn
              simp only [List.length_cons] at hn
              have h11 : p.2 = 11 := Classical.byContradiction fun hn => hc (.inr hn)
              have hq2 : quoD r = some p := by
                unfold quoD at hq ⊢
                match r with
                | [] => simp at hn
                | d :: r2 =>
                  by_cases hd : (d :: r2).head? = some 34
                  · have hd2 : (d :: r2 ++ [32]).head? = some 34 := hd
                    rw [if_pos hd2] at hq
                    rw [if_pos hd]
                    rw [List.length_cons] at hn
                    exact qS_cut r2.length r2 [32] p (Nat.le_refl _) hq (by omega)
                  · have hd2 : ¬ (d :: r2 ++ [32]).head? = some 34 := hd
                    rw [if_neg hd2] at hq
                    cases hq
              rw [hq2]
        · rw [if_neg h3, if_neg h3]
          by_cases h4 : lets.contains c = true
          · rw [if_pos h4, if_pos h4]
            exact (name_app (c :: r) []).symm
          · rw [if_neg h4, if_neg h4]
            exact (sign_app (c :: r) [] (by simp)).symm

theorem next_white (x : Lx) (c : UInt8) (r : Bs) (h : whites.contains c = true) : ¬ (nextS x (c :: r)).e = 0 := by
  have hc : c = 32 ∨ c = 9 ∨ c = 13 ∨ c = 10 := by
    rw [List.contains_iff_mem] at h
    simpa [whites] using h
  have hb : nextS x (c :: r) = signS (c :: r) := by
    rcases hc with rfl | rfl | rfl | rfl <;> rfl
  rw [hb]
  have : signS (c :: r) = bad := by
    unfold signS
    rw [List.find?_eq_none.2]
    intro g hg
    simp only [signsL, List.mem_cons, List.not_mem_nil, or_false] at hg
    rcases hc with rfl | rfl | rfl | rfl <;> rcases hg with h | h | h | h | h | h | h | h | h | h | h | h | h | h | h | h <;> subst h <;> simp [List.isPrefixOf]
  rw [this]
  decide
/-- What a text that was written for a token is. -/
theorem wr_next {x : Lx} {t : Ti} {o : Bs} (h : wrS x t = some o) : o ≠ [] ∧ runS whites o = 0 ∧ okT (nextS x o) o t := by
  unfold wrS at h
  cases ho : outS t with
  | none => rw [ho] at h; cases h
  | some o' =>
    rw [ho] at h
    simp only at h
    split at h
    · rename_i hk
      cases h
      have hne : o ≠ [] := by
        rintro rfl
        exact next_white x 32 [] rfl hk.1
      have hcut := next_cut x o hk.1 hk.2.1 hne
      refine ⟨hne, ?_, by rw [hcut]; exact hk⟩
      match o, hne with
      | c :: r, _ =>
        rw [runS_cons]
        cases hw : whites.contains c with
        | true => exact absurd hk.1 (by rw [List.cons_append]; exact next_white x c _ hw)
        | false => rfl
    · cases h

/-- The same token, wherever it stands. -/
def sameT (t : Ti) (u : Tk) : Prop := u.k = t.k ∧ u.t = t.t ∧ u.n = t.n ∧ u.s = t.s ∧ u.m = t.m
theorem back_toks (x : Lx) : ∀ (L : List Ti) (P : List Bs) (pre : Bs) (f a : Nat) (acc : List Tk), allS (L.map (wrS x)) = some P → runS whites pre = pre.length → (pre ++ joinB P).length < f →
    ∃ T : List Tk, toksA x f a (pre ++ joinB P) acc = ⟨acc ++ T, 0, 0⟩ ∧ T.length = L.length ∧ ∀ (i : Nat) (t : Ti) (u : Tk), L[i]? = some t → T[i]? = some u → sameT t u
  | [], P, pre, f, a, acc, hP, hpre, hf => by
    cases hP
    obtain ⟨g, rfl⟩ : ∃ g, f = g + 1 := ⟨f - 1, by omega⟩
    refine ⟨[], ?_, rfl, fun i t u h => by simp at h⟩
    rw [List.append_nil]
    apply toksA_end
    show (pre ++ []).drop (runS whites (pre ++ [])) = []
    rw [List.append_nil, hpre]
    simp
  | t :: L, P, pre, f, a, acc, hP, hpre, hf => by
    rw [List.map_cons] at hP
    cases hw : wrS x t with
    | none => rw [hw] at hP; cases hP
    | some o =>
      rw [hw] at hP
      have hP2 : (allS (L.map (wrS x))).map (o :: ·) = some P := hP
      cases hQ : allS (L.map (wrS x)) with
      | none => rw [hQ] at hP2; cases hP2
      | some Q =>
        rw [hQ] at hP2
        cases hP2
        obtain ⟨hne, h0, hok⟩ := wr_next hw
        obtain ⟨e1, e2, e3, e4, e5, e6, e7⟩ := hok
        obtain ⟨g, rfl⟩ : ∃ g, f = g + 1 := ⟨f - 1, by omega⟩
        -- what stands behind
        obtain ⟨M, hM, hnx⟩ : ∃ M, joinB (o :: Q) = o ++ M ∧ ((Q = [] ∧ M = []) ∨ (Q ≠ [] ∧ M = [32] ++ joinB Q)) := by
          cases Q with
          | nil => exact ⟨[], by simp [joinB], .inl ⟨rfl, rfl⟩⟩
          | cons u R => exact ⟨32 :: joinB (u :: R), rfl, .inr ⟨by simp, rfl⟩⟩
        have hnext : nextS x (o ++ M) = nextS x o := by
          rcases hnx with ⟨_, rfl⟩ | ⟨_, rfl⟩
          · rw [List.append_nil]
          · exact (next_app x o (joinB Q) e1).1
        have hwl : runS whites (o ++ M) = 0 := by
          match o, hne with
          | c :: r, _ =>
            rw [runS_cons] at h0
            rw [List.cons_append, runS_cons]
            split at h0
            · omega
            · rename_i hc; rw [if_neg hc]
        have hr : runS whites (pre ++ (o ++ M)) = pre.length := by rw [runS_all _ _ _ hpre, hwl, Nat.add_zero]
        have hd : (pre ++ (o ++ M)).drop (runS whites (pre ++ (o ++ M))) = o ++ M := by rw [hr]; simp
        rw [hM] at hf ⊢
        obtain ⟨c, r, ho⟩ : ∃ c r, o = c :: r := by
          cases o with
          | nil => exact absurd rfl hne
          | cons c r => exact ⟨c, r, rfl⟩
        have hcons : o ++ M = c :: (r ++ M) := by rw [ho]; rfl
        have hgo := toksA_go (x := x) (f := g) (a := a) (l := pre ++ (o ++ M)) (acc := acc) (c := c) (r := r ++ M) (by rw [hd, hcons]) (by rw [← hcons, hnext]; exact e1)
        rw [← hcons, hnext, hr, e2] at hgo
        have hdrop : (o ++ M).drop o.length = M := by simp
        rw [hdrop] at hgo
        have hlen : (pre ++ (o ++ M)).length = pre.length + (o.length + M.length) := by simp
        have hol : 1 ≤ o.length := by rw [ho]; simp
        rcases hnx with ⟨rfl, rfl⟩ | ⟨hQn, rfl⟩
        · have hL0 : L.length = 0 := by have := allS_len hQ; simp at this; omega
          obtain rfl := List.eq_nil_of_length_eq_zero hL0
          obtain ⟨g2, rfl⟩ : ∃ g2, g = g2 + 1 := ⟨g - 1, by rw [hlen] at hf; omega⟩
          refine ⟨[{ (nextS x o).t with a := a + pre.length }], ?_, rfl, ?_⟩
          · rw [hgo]
            exact toksA_end (by simp)
          · intro i t' u hi hu
            cases i with
            | zero => cases hi; cases hu; exact ⟨e3, e4, e5, e6, e7⟩
            | succ i => simp at hi
        · obtain ⟨T, hT, hl, hs⟩ := back_toks x L Q [32] g (a + pre.length + o.length) (acc ++ [{ (nextS x o).t with a := a + pre.length }]) hQ rfl (by rw [hlen] at hf; omega)
          refine ⟨{ (nextS x o).t with a := a + pre.length } :: T, ?_, by rw [List.length_cons, List.length_cons, hl], ?_⟩
          · rw [hgo, hT]
            simp
          · intro i t' u hi hu
            cases i with
            | zero => cases hi; cases hu; exact ⟨e3, e4, e5, e6, e7⟩
            | succ i => exact hs i t' u hi hu

theorem back_all (x : Lx) (L : List Ti) (P : List Bs) (hP : allS (L.map (wrS x)) = some P) (hl : (joinB P).length ≤ 65536) :
    (toksS x (joinB P)).e = 0 ∧ (toksS x (joinB P)).l.length = L.length ∧ ∀ (i : Nat) (t : Ti) (u : Tk), L[i]? = some t → (toksS x (joinB P)).l[i]? = some u → sameT t u := by
  obtain ⟨T, h1, h2, h3⟩ := back_toks x L P [] ((joinB P).length + 1) 0 [] hP rfl (by simp)
  have h4 : toksS x (joinB P) = ⟨T, 0, 0⟩ := by
    unfold toksS
    rw [if_neg (by omega)]
    simpa using h1
  rw [h4]
  exact ⟨rfl, h2, h3⟩
end Go.Proofs.YtkkeplmaphcblaaGreatDoor
