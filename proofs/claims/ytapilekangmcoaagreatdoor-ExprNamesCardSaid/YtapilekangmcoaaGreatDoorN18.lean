/- The walk of package days: Parse. What every law of package days calls (awake), and the walks of DaysLeap and DaysDay. The walk of the reference's Parse of days. The walk of DaysBack. Reading a day's text: both sides read alike; and the walk of DaysTexts. -/
import Derived.Shelf.Strings.SlTrimAscii
import Derived.Lib.AtoiErrMem
import Derived.Test.YtapilekangmcoaaGreatDoorN17
import Derived.Test.YtapilekangmcoaaGreatDoorN10
set_option linter.unusedVariables false
set_option linter.unusedSimpArgs false
set_option maxHeartbeats 8000000
set_option maxRecDepth 100000
namespace Go.Proofs.YtapilekangmcoaaGreatDoor.Days
open Go.RowKit
open Go.Lib hiding intOf
/-- A date's day, or the error. -/
structure DayR where
 n : Int
 e : Int
def dayR (y m d : Int) : DayR := if okD y m d then ⟨dayN y m d, 0⟩ else ⟨0, 3⟩
theorem day_any (y m d : Int) (w : World) : Calls Tryz.prog 157 #[.int .i64 y, .int .i64 m, .int .i64 d] w fun e w' => e = .returned (.tuple #[.int .i64 (dayR y m d).n, .int .i64 (dayR y m d).e]) ∧ w = w' := by
 unfold dayR
 by_cases h : okD y m d
 · rw [if_pos h]; exact day_ok y m d h w
 · rw [if_neg h]; exact day_bad y m d h w
theorem trim_good {s : ByteArray} (hs : s.size ≤ 9223372036854775807) (h : allDig s.data.toList = true) (w : World) :
   Calls Tryz.prog 155 #[.string s, .string ⟨#[48, 49, 50, 51, 52, 53, 54, 55, 56, 57]⟩] w fun e w' => e = .returned (.string ⟨#[]⟩) ∧ Below w.heap.size w w' := by
 refine (Any.strings_Trim_laid Tryz.lays160 (by kernel_rfl) s ⟨#[48, 49, 50, 51, 52, 53, 54, 55, 56, 57]⟩ w hs (by decide) (ascii_of_all (by decide))).mono ?_
 rintro e w' ⟨rfl, hb⟩
 have h2 := trim_digits s.data.toList
 rw [h] at h2
 have h3 : trimS s.data.toList cutset.data.toList = [] := List.isEmpty_iff.1 h2
 refine ⟨?_, hb⟩
 show Ending.returned (.string ⟨(trimS s.data.toList cutset.data.toList).toArray⟩) = _
 rw [h3]
theorem trim_bad {s : ByteArray} (hs : s.size ≤ 9223372036854775807) (h : allDig s.data.toList = false) (w : World) :
   Calls Tryz.prog 155 #[.string s, .string ⟨#[48, 49, 50, 51, 52, 53, 54, 55, 56, 57]⟩] w fun e w' => (∃ R : ByteArray, e = .returned (.string R) ∧ (R.toList == []) = false) ∧ Below w.heap.size w w' := by
 refine (Any.strings_Trim_laid Tryz.lays160 (by kernel_rfl) s ⟨#[48, 49, 50, 51, 52, 53, 54, 55, 56, 57]⟩ w hs (by decide) (ascii_of_all (by decide))).mono ?_
 rintro e w' ⟨rfl, hb⟩
 have h2 := trim_digits s.data.toList
 rw [h] at h2
 refine ⟨⟨_, rfl, ?_⟩, hb⟩
 rw [Lib.toList_data]
 show ((trimS s.data.toList cutset.data.toList).toArray.toList == []) = false
 cases hc : trimS s.data.toList cutset.data.toList with
 | nil => rw [hc] at h2; simp at h2
 | cons a t => rfl
theorem decFrom_some : ∀ (l : List UInt8) (a : Nat), allDig l = true → ∃ n, decFrom a l = some n
 | [], a, _ => ⟨a, rfl⟩
 | b :: l, a, h => by
   unfold allDig at h
   rw [List.all_cons, Bool.and_eq_true] at h
   rw [decFrom, digitVal, if_pos (of_decide_eq_true h.1)]
   exact decFrom_some l _ h.2
def pv (s : ByteArray) : Int := (((decFrom 0 s.data.toList).getD 0 : Nat) : Int)
def goodP (k : Nat) (s : ByteArray) : Bool := s.size == k && allDig s.data.toList
theorem good_atoi {k : Nat} {s : ByteArray} (hk : 0 < k) (h : goodP k s = true) : atoi s.data.toList = some (pv s) := by
 unfold goodP at h
 rw [Bool.and_eq_true] at h
 have h1 : s.size = k := by simpa using h.1
 obtain ⟨n, hn⟩ := decFrom_some s.data.toList 0 h.2
 have hne : s.data.toList ≠ [] := by
   intro e
   have : s.data.toList.length = s.size := by simp
   rw [e] at this
   simp at this
   omega
 unfold pv
 rw [hn]
 exact atoi_digits hne h.2 hn
theorem atoi_good {k : Nat} {s : ByteArray} (hk : 0 < k) (hk4 : k ≤ 18) (h : goodP k s = true) (w : World) :
   Calls Tryz.prog 156 #[.string s] w fun e w' => e = .returned (.tuple #[.int .i64 (pv s), .nilIface]) ∧ Below w.heap.size w w' := by
 have h1 : s.size = k := by unfold goodP at h; rw [Bool.and_eq_true] at h; simpa using h.1
 refine (Tryz.strconv_Atoi s (pv s) (by omega) (good_atoi hk h) w).mono ?_
 rintro e w' ⟨rfl, t, rfl⟩
 exact ⟨rfl, Lib.bytesWorld_below _ _ _⟩
def parseR (a b c : ByteArray) : DayR := if goodP 4 a && goodP 2 b && goodP 2 c then dayR (pv a) (pv b) (pv c) else ⟨0, 5⟩
def arrK (x y z : Int) : Nat → Array Value
 | 0 => #[.int .i64 0, .int .i64 0, .int .i64 0]
 | 1 => #[.int .i64 x, .int .i64 0, .int .i64 0]
 | 2 => #[.int .i64 x, .int .i64 y, .int .i64 0]
 | _ => #[.int .i64 x, .int .i64 y, .int .i64 z]
theorem split_lit (s a b c : ByteArray) (m : Int) (hs : s.size < 4294967281) (hn : countB s ⟨#[45]⟩ = 2) (hp : splitB ⟨#[45]⟩ 0 2 s = [a, b, c]) (w : World) (hm : w.cell? ⟨5, 0, none⟩ = some (.int .i64 m)) :
   Calls Tryz.prog 154 #[.string s, .string ⟨#[45]⟩] w fun e w' => e = .returned (.slice (some ⟨w.heap.size, 0, none⟩) 3 3) ∧ w' = w.alloc (.cells #[.string a, .string b, .string c] 9) := by
 refine (Tryz.strings_Split s ⟨#[45]⟩ m w hs hm (by decide)).mono ?_
 rintro e w' ⟨rfl, rfl⟩
 rw [hn, hp]
 exact ⟨rfl, rfl⟩
set_option maxHeartbeats 4000000 in
theorem parse_parts (s a b c : ByteArray) (m : Int) (hs : s.size < 4294967281) (ha : a.size ≤ 4294967281) (hb : b.size ≤ 4294967281) (hc : c.size ≤ 4294967281) (hn : countB s ⟨#[45]⟩ = 2) (hp : splitB ⟨#[45]⟩ 0 2 s = [a, b, c]) (w : World) (hm : w.cell? ⟨5, 0, none⟩ = some (.int .i64 m)) :
   Calls Tryz.prog 116 #[.string s] w fun e w' => e = .returned (.tuple #[.int .i64 (parseR a b c).n, .int .i64 (parseR a b c).e]) ∧ Below w.heap.size w w' := by
 have HSp := Lib.hid (split_lit s a b c m hs hn hp)
 have HR : Hid (parseR a b c = if goodP 4 a && goodP 2 b && goodP 2 c then dayR (pv a) (pv b) (pv c) else ⟨0, 5⟩) := rfl
 clear hs hn hp
 go_enter Tryz.func116, Tryz.ntmps116
 go_wp2_with fail
 refine (HSp.out _ hm).mono ?_
 rintro e w1 ⟨rfl, rfl⟩
 go_wp2
 go_loopw [15] (fun i wr => ∃ k : Nat, k ≤ 3 ∧ i = .int .i64 k ∧ Blk wr w.heap.size 9 #[.string a, .string b, .string c] ∧ Blk wr (w.heap.size + 1) 186 (arrK (pv a) (pv b) (pv c) k) ∧ Below w.heap.size w wr ∧ (0 < k → goodP 4 a = true) ∧ (1 < k → goodP 2 b = true) ∧ (2 < k → goodP 2 c = true)) (fun i _ => 3 - (intOf i).toNat)
 case atStart => exact ⟨0, by omega, rfl, (Blk.new _ _ _).alloc _, Blk.new' _ _ _ (by simp), by (repeat' first | (with_reducible first | exact .refl _ _ | assumption | apply balloc | apply Below.drew | apply bset | refine bstep ?_ ‹_› | refine bturn ?_ ‹_› ?_) | go_size), by omega, by omega, by omega⟩
 case round =>
   obtain ⟨k, hk, hi, hb0, hb1, hbl, hg⟩ := hrel
   have HG := Lib.hid hg
   clear hg hm
   have hl0 := hb0.lt
   have hl1 := hb1.lt
   have c0 := hb0.cell 0
   have c1 := hb0.cell 1
   have c2 := hb0.cell 2
   simp at c0 c1 c2
   have hk3 : k = 0 ∨ k = 1 ∨ k = 2 ∨ k = 3 := by omega
   have hm0 : min (0 : Int) 2 = 0 := rfl
   have hm2 : min (2 : Int) 2 = 2 := rfl
   have hm4 : min (4 : Int) 2 = 2 := rfl
   rcases hk3 with rfl | rfl | rfl | rfl
   · obtain rfl : _ = Value.int .i64 0 := hi
     clear hk
     by_cases hsz : a.size = 4
     · have hszi : (a.size : Int) = 4 := by omega
       cases hdg : allDig a.data.toList with
       | true =>
         have hg : goodP 4 a = true := by unfold goodP; rw [hsz, hdg]; rfl
         have HTr := Lib.hid (fun w => trim_good (s := a) (by omega) hdg w)
         have HAt := Lib.hid (fun w => atoi_good (k := 4) (by omega) (by omega) hg w)
         have HGa := Lib.hid hg
         clear hdg hg hsz
         go_wp2_with fail
         refine (HTr.out _).mono ?_
         rintro e w2 ⟨rfl, hw2⟩
         go_wp2_with fail
         refine (HAt.out _).mono ?_
         rintro e w3 ⟨rfl, hw3⟩
         replace hb0 := (hb0.step hw2).step hw3
         replace hb1 := (hb1.step hw2).step hw3
         have z0 := hb1.frozen 0
         have d0 : w3.cell? ⟨w.heap.size + 1, 0, none⟩ = some (.int .i64 0) := hb1.cell 0
         clear c0 c1 c2
         go_wp2
         go_roundw
         case rel => exact ⟨1, by omega, by rfl, hb0.far (by simp) _, hb1.set_ 0 (.int .i64 (pv a)), bset (by (repeat' first | (with_reducible first | exact .refl _ _ | assumption | apply balloc | apply Below.drew | apply bset | refine bstep ?_ ‹_› | refine bturn ?_ ‹_› ?_) | go_size)) (by simp) _, fun _ => HGa.out, by omega, by omega⟩
         case measure => decide
       | false =>
         have hg : goodP 4 a = false := by unfold goodP; rw [hdg]; simp
         have HTb := Lib.hid (fun w => trim_bad (s := a) (by omega) hdg w)
         have HGa := Lib.hid hg
         clear hdg hg hsz
         go_wp2_with fail
         refine (HTb.out _).mono ?_
         rintro e w2 ⟨⟨R, rfl, hR⟩, hw2⟩
         go_wp2
         go_returns
         exact ⟨by rw [HR.out, HGa.out]; simp, by (repeat' first | (with_reducible first | exact .refl _ _ | assumption | apply balloc | apply Below.drew | apply bset | refine bstep ?_ ‹_› | refine bturn ?_ ‹_› ?_) | go_size)⟩
     · have hszi : ¬ (a.size : Int) = 4 := by omega
       have hg : goodP 4 a = false := by unfold goodP; simp [hsz]
       have HGa := Lib.hid hg
       clear hg hsz
       go_wp2
       go_returns
       exact ⟨by rw [HR.out, HGa.out]; simp, by (repeat' first | (with_reducible first | exact .refl _ _ | assumption | apply balloc | apply Below.drew | apply bset | refine bstep ?_ ‹_› | refine bturn ?_ ‹_› ?_) | go_size)⟩
   · obtain rfl : _ = Value.int .i64 1 := hi
     clear hk
     by_cases hsz : b.size = 2
     · have hszi : (b.size : Int) = 2 := by omega
       cases hdg : allDig b.data.toList with
       | true =>
         have hg : goodP 2 b = true := by unfold goodP; rw [hsz, hdg]; rfl
         have HTr := Lib.hid (fun w => trim_good (s := b) (by omega) hdg w)
         have HAt := Lib.hid (fun w => atoi_good (k := 2) (by omega) (by omega) hg w)
         have HGa := Lib.hid hg
         clear hdg hg hsz
         go_wp2_with fail
         refine (HTr.out _).mono ?_
         rintro e w2 ⟨rfl, hw2⟩
         go_wp2_with fail
         refine (HAt.out _).mono ?_
         rintro e w3 ⟨rfl, hw3⟩
         replace hb0 := (hb0.step hw2).step hw3
         replace hb1 := (hb1.step hw2).step hw3
         have z0 := hb1.frozen 1
         have d0 : w3.cell? ⟨w.heap.size + 1, 1, none⟩ = some (.int .i64 0) := hb1.cell 1
         clear c0 c1 c2
         go_wp2
         go_roundw
         case rel => exact ⟨2, by omega, by rfl, hb0.far (by simp) _, hb1.set_ 1 (.int .i64 (pv b)), bset (by (repeat' first | (with_reducible first | exact .refl _ _ | assumption | apply balloc | apply Below.drew | apply bset | refine bstep ?_ ‹_› | refine bturn ?_ ‹_› ?_) | go_size)) (by simp) _, fun _ => HG.out.1 (by omega), fun _ => HGa.out, by omega⟩
         case measure => decide
       | false =>
         have hg : goodP 2 b = false := by unfold goodP; rw [hdg]; simp
         have HTb := Lib.hid (fun w => trim_bad (s := b) (by omega) hdg w)
         have HGa := Lib.hid hg
         clear hdg hg hsz
         go_wp2_with fail
         refine (HTb.out _).mono ?_
         rintro e w2 ⟨⟨R, rfl, hR⟩, hw2⟩
         go_wp2
         go_returns
         exact ⟨by rw [HR.out, HGa.out]; simp, by (repeat' first | (with_reducible first | exact .refl _ _ | assumption | apply balloc | apply Below.drew | apply bset | refine bstep ?_ ‹_› | refine bturn ?_ ‹_› ?_) | go_size)⟩
     · have hszi : ¬ (b.size : Int) = 2 := by omega
       have hg : goodP 2 b = false := by unfold goodP; simp [hsz]
       have HGa := Lib.hid hg
       clear hg hsz
       go_wp2
       go_returns
       exact ⟨by rw [HR.out, HGa.out]; simp, by (repeat' first | (with_reducible first | exact .refl _ _ | assumption | apply balloc | apply Below.drew | apply bset | refine bstep ?_ ‹_› | refine bturn ?_ ‹_› ?_) | go_size)⟩
   · obtain rfl : _ = Value.int .i64 2 := hi
     clear hk
     by_cases hsz : c.size = 2
     · have hszi : (c.size : Int) = 2 := by omega
       cases hdg : allDig c.data.toList with
       | true =>
         have hg : goodP 2 c = true := by unfold goodP; rw [hsz, hdg]; rfl
         have HTr := Lib.hid (fun w => trim_good (s := c) (by omega) hdg w)
         have HAt := Lib.hid (fun w => atoi_good (k := 2) (by omega) (by omega) hg w)
         have HGa := Lib.hid hg
         clear hdg hg hsz
         go_wp2_with fail
         refine (HTr.out _).mono ?_
         rintro e w2 ⟨rfl, hw2⟩
         go_wp2_with fail
         refine (HAt.out _).mono ?_
         rintro e w3 ⟨rfl, hw3⟩
         replace hb0 := (hb0.step hw2).step hw3
         replace hb1 := (hb1.step hw2).step hw3
         have z0 := hb1.frozen 2
         have d0 : w3.cell? ⟨w.heap.size + 1, 2, none⟩ = some (.int .i64 0) := hb1.cell 2
         clear c0 c1 c2
         go_wp2
         go_roundw
         case rel => exact ⟨3, by omega, by rfl, hb0.far (by simp) _, hb1.set_ 2 (.int .i64 (pv c)), bset (by (repeat' first | (with_reducible first | exact .refl _ _ | assumption | apply balloc | apply Below.drew | apply bset | refine bstep ?_ ‹_› | refine bturn ?_ ‹_› ?_) | go_size)) (by simp) _, fun _ => HG.out.1 (by omega), fun _ => HG.out.2.1 (by omega), fun _ => HGa.out⟩
         case measure => decide
       | false =>
         have hg : goodP 2 c = false := by unfold goodP; rw [hdg]; simp
         have HTb := Lib.hid (fun w => trim_bad (s := c) (by omega) hdg w)
         have HGa := Lib.hid hg
         clear hdg hg hsz
         go_wp2_with fail
         refine (HTb.out _).mono ?_
         rintro e w2 ⟨⟨R, rfl, hR⟩, hw2⟩
         go_wp2
         go_returns
         exact ⟨by rw [HR.out, HGa.out]; simp, by (repeat' first | (with_reducible first | exact .refl _ _ | assumption | apply balloc | apply Below.drew | apply bset | refine bstep ?_ ‹_› | refine bturn ?_ ‹_› ?_) | go_size)⟩
     · have hszi : ¬ (c.size : Int) = 2 := by omega
       have hg : goodP 2 c = false := by unfold goodP; simp [hsz]
       have HGa := Lib.hid hg
       clear hg hsz
       go_wp2
       go_returns
       exact ⟨by rw [HR.out, HGa.out]; simp, by (repeat' first | (with_reducible first | exact .refl _ _ | assumption | apply balloc | apply Below.drew | apply bset | refine bstep ?_ ‹_› | refine bturn ?_ ‹_› ?_) | go_size)⟩
   · obtain rfl : _ = Value.int .i64 3 := hi
     have d0 : wr.cell? ⟨w.heap.size + 1, 0, none⟩ = some (.int .i64 (pv a)) := hb1.cell 0
     have d1 : wr.cell? ⟨w.heap.size + 1, 1, none⟩ = some (.int .i64 (pv b)) := hb1.cell 1
     have d2 : wr.cell? ⟨w.heap.size + 1, 2, none⟩ = some (.int .i64 (pv c)) := hb1.cell 2
     clear c0 c1 c2 hk
     go_wp2_with fail
     refine (day_any (pv a) (pv b) (pv c) _).mono ?_
     rintro e w2 ⟨rfl, rfl⟩
     go_wp2
     go_returns
     exact ⟨by rw [HR.out, HG.out.1 (by omega), HG.out.2.1 (by omega), HG.out.2.2 (by omega)]; rfl, by (repeat' first | (with_reducible first | exact .refl _ _ | assumption | apply balloc | apply Below.drew | apply bset | refine bstep ?_ ‹_› | refine bturn ?_ ‹_› ?_) | go_size)⟩
end Go.Proofs.YtapilekangmcoaaGreatDoor.Days
namespace Go.Proofs.YtapilekangmcoaaGreatDoor.Days
open Go.RowKit
open Go.Lib hiding intOf
end Go.Proofs.YtapilekangmcoaaGreatDoor.Days
namespace Go.Proofs.YtapilekangmcoaaGreatDoor.Days
open Go.RowKit
open Go.Lib hiding intOf
def isD (b : UInt8) : Bool := decide (48 ≤ b.toNat ∧ b.toNat ≤ 57)
def okAt (i : Nat) (b : UInt8) : Bool := if i = 4 ∨ i = 7 then b == 45 else isD b
def byteAt (s : ByteArray) (j : Nat) : UInt8 := s.data.toList.getD j 0
theorem byteAt_eq (s : ByteArray) (j : Nat) (h : j < s.size) : byteAt s j = s[j] := by
 unfold byteAt
 rw [List.getD_eq_getElem?_getD, Lib.data_getElem? s j h]
 rfl
/-- The number that the digits from place o on spell. -/
def fold10 (s : ByteArray) (o : Nat) : Nat → Nat
 | 0 => 0
 | k + 1 => fold10 s o k * 10 + ((byteAt s (o + k)).toNat - 48)
def wf (s : ByteArray) : Prop := s.size = 10 ∧ ∀ j, j < 10 → okAt j (byteAt s j) = true
def kk (i : Nat) : Int := if i ≤ 4 then 0 else if i ≤ 7 then 1 else 2
end Go.Proofs.YtapilekangmcoaaGreatDoor.Days
namespace Go.Proofs.YtapilekangmcoaaGreatDoor.Days
open Go.RowKit
open Go.Lib hiding intOf
theorem good_pd (k n : Nat) : goodP k ⟨(pd k n).toArray⟩ = true := by
 unfold goodP
 rw [Bool.and_eq_true]
 refine ⟨?_, allDig_pd k n⟩
 rw [beq_iff_eq]
 exact pd_length k n
theorem pv_pd (k n : Nat) (h : n < 10 ^ k) : pv ⟨(pd k n).toArray⟩ = n := by
 unfold pv
 show (((decFrom 0 (pd k n)).getD 0 : Nat) : Int) = n
 rw [decFrom_pd k n h]
 rfl
theorem splitB_of {s : ByteArray} {k : Nat} {L : List (List UInt8)} (h : splitK [45] 0 k s.data.toList = L) : splitB ⟨#[45]⟩ 0 k s = L.map fun l => ⟨l.toArray⟩ := by
 have h1 := splitB_data ⟨#[45]⟩ 0 k s
 rw [show (⟨#[45]⟩ : ByteArray).data.toList = [45] from rfl, h] at h1
 rw [← h1, List.map_map]
 conv => lhs; rw [← List.map_id (splitB ⟨#[45]⟩ 0 k s)]
 apply List.map_congr_left
 intro a _
 rfl
theorem parse_text (y m d : Nat) (hy : y < 10000) (hmo : m < 100) (hd : d < 100) (q : Int) (s : ByteArray) (hs : ⟨(textL y m d).toArray⟩ = s) (w : World) (hm : w.cell? ⟨5, 0, none⟩ = some (.int .i64 q)) :
   Calls Tryz.prog 116 #[.string s] w fun e w' => e = .returned (.tuple #[.int .i64 (dayR y m d).n, .int .i64 (dayR y m d).e]) ∧ Below w.heap.size w w' := by
 subst hs
 obtain ⟨h1, h2⟩ := split3 (a := pd 4 y) (b := pd 2 m) (c := pd 2 d) (allDig_no45 (allDig_pd _ _)) (allDig_no45 (allDig_pd _ _)) (allDig_no45 (allDig_pd _ _))
 have hsz : (⟨(textL y m d).toArray⟩ : ByteArray).size = 10 := textL_length y m d
 have h3 : splitB ⟨#[45]⟩ 0 2 ⟨(textL y m d).toArray⟩ = [⟨(pd 4 y).toArray⟩, ⟨(pd 2 m).toArray⟩, ⟨(pd 2 d).toArray⟩] := splitB_of (s := ⟨(textL y m d).toArray⟩) (L := [pd 4 y, pd 2 m, pd 2 d]) h2
 refine (parse_parts ⟨(textL y m d).toArray⟩ ⟨(pd 4 y).toArray⟩ ⟨(pd 2 m).toArray⟩ ⟨(pd 2 d).toArray⟩ q (by omega) ?_ ?_ ?_ h1 h3 w hm).mono ?_
 · show (pd 4 y).toArray.size ≤ _; simp [pd_length]
 · show (pd 2 m).toArray.size ≤ _; simp [pd_length]
 · show (pd 2 d).toArray.size ≤ _; simp [pd_length]
 rintro e w' ⟨rfl, hb⟩
 refine ⟨?_, hb⟩
 unfold parseR
 simp only [good_pd, Bool.and_self, if_true]
 rw [pv_pd 4 y (by omega), pv_pd 2 m (by omega), pv_pd 2 d (by omega)]
end Go.Proofs.YtapilekangmcoaaGreatDoor.Days
namespace Go.Proofs.YtapilekangmcoaaGreatDoor.Days
open Go.RowKit
open Go.Lib hiding intOf
def joinS : List (List UInt8) → List UInt8
 | [] => []
 | [a] => a
 | a :: b :: r => a ++ 45 :: joinS (b :: r)
theorem splitK_cons (k : Nat) (l : List UInt8) : ∃ a r, splitK [45] 0 k l = a :: r := by
 cases k with
 | zero => exact ⟨l, [], rfl⟩
 | succ k =>
   unfold splitK
   split
   · exact ⟨_, _, rfl⟩
   · exact ⟨_, _, rfl⟩
theorem join_split : ∀ (k : Nat) (l : List UInt8), joinS (splitK [45] 0 k l) = l
 | 0, _ => rfl
 | k + 1, l => by
   unfold splitK
   split
   · rfl
   · rename_i h
     rcases index_spec l [45] with ⟨h1, _⟩ | ⟨i, h1, h2, h3, _⟩
     · rw [h1] at h; exact absurd rfl h
     · rw [h1]
       obtain ⟨a, r, hs⟩ := splitK_cons k (l.drop (i + 1))
       have hh := occAt_head (c := 45) (t := []) rfl h3
       have hlt : i < l.length := by
         rw [List.getElem?_eq_some_iff] at hh
         exact hh.1
       show joinS (l.take (i + 0) :: splitK [45] 0 k (l.drop (i + 1))) = l
       rw [hs]
       show l.take (i + 0) ++ 45 :: joinS (a :: r) = l
       rw [← hs, join_split k, Nat.add_zero]
       have hg : l[i] = 45 := by
         rw [List.getElem?_eq_getElem hlt] at hh
         exact Option.some.inj hh
       rw [← hg, List.getElem_cons_drop, List.take_append_drop]
theorem ten {l : List UInt8} (h : l.length = 10) : ∃ x0 x1 x2 x3 x4 x5 x6 x7 x8 x9, l = [x0, x1, x2, x3, x4, x5, x6, x7, x8, x9] := by
 match l, h with
 | [x0, x1, x2, x3, x4, x5, x6, x7, x8, x9], _ => exact ⟨x0, x1, x2, x3, x4, x5, x6, x7, x8, x9, rfl⟩
theorem four {l : List UInt8} (h : l.length = 4) : ∃ x0 x1 x2 x3, l = [x0, x1, x2, x3] := by
 match l, h with
 | [x0, x1, x2, x3], _ => exact ⟨x0, x1, x2, x3, rfl⟩
theorem two {l : List UInt8} (h : l.length = 2) : ∃ x0 x1, l = [x0, x1] := by
 match l, h with
 | [x0, x1], _ => exact ⟨x0, x1, rfl⟩
theorem digitVal_of {b : UInt8} (h : isD b = true) : digitVal b = some (b.toNat - 48) := by
 unfold digitVal
 rw [if_pos (of_decide_eq_true h)]
theorem allDig_iff {l : List UInt8} : allDig l = true ↔ ∀ b ∈ l, isD b = true := List.all_eq_true
/-- What a well-formed text splits into. -/
theorem wf_split {s : ByteArray} (h : wf s) : ∃ a b c : ByteArray, countB s ⟨#[45]⟩ = 2 ∧ splitB ⟨#[45]⟩ 0 2 s = [a, b, c] ∧ a.size ≤ 4294967281 ∧ b.size ≤ 4294967281 ∧ c.size ≤ 4294967281 ∧ parseR a b c = dayR (fold10 s 0 4) (fold10 s 5 2) (fold10 s 8 2) := by
 obtain ⟨hs, hj⟩ := h
 have hlen : s.data.toList.length = 10 := by simpa using hs
 obtain ⟨x0, x1, x2, x3, x4, x5, x6, x7, x8, x9, hl⟩ := ten hlen
 have e : ∀ j, byteAt s j = [x0, x1, x2, x3, x4, x5, x6, x7, x8, x9].getD j 0 := fun j => by unfold byteAt; rw [hl]
 have h0 : isD x0 = true := by have := hj 0 (by decide); rw [e] at this; exact this
 have h1 : isD x1 = true := by have := hj 1 (by decide); rw [e] at this; exact this
 have h2 : isD x2 = true := by have := hj 2 (by decide); rw [e] at this; exact this
 have h3 : isD x3 = true := by have := hj 3 (by decide); rw [e] at this; exact this
 have h4 : x4 = 45 := by have := hj 4 (by decide); rw [e] at this; exact beq_iff_eq.1 this
 have h5 : isD x5 = true := by have := hj 5 (by decide); rw [e] at this; exact this
 have h6 : isD x6 = true := by have := hj 6 (by decide); rw [e] at this; exact this
 have h7 : x7 = 45 := by have := hj 7 (by decide); rw [e] at this; exact beq_iff_eq.1 this
 have h8 : isD x8 = true := by have := hj 8 (by decide); rw [e] at this; exact this
 have h9 : isD x9 = true := by have := hj 9 (by decide); rw [e] at this; exact this
 subst h4; subst h7
 have da : allDig [x0, x1, x2, x3] = true := allDig_iff.2 (by simp [h0, h1, h2, h3])
 have db : allDig [x5, x6] = true := allDig_iff.2 (by simp [h5, h6])
 have dc : allDig [x8, x9] = true := allDig_iff.2 (by simp [h8, h9])
 obtain ⟨c1, c2⟩ := split3 (a := [x0, x1, x2, x3]) (b := [x5, x6]) (c := [x8, x9]) (allDig_no45 da) (allDig_no45 db) (allDig_no45 dc)
 refine ⟨⟨#[x0, x1, x2, x3]⟩, ⟨#[x5, x6]⟩, ⟨#[x8, x9]⟩, ?_, ?_, ?_, ?_, ?_, ?_⟩
 · show count s.data.toList [45] = 2
   rw [hl]; exact c1
 · exact splitB_of (s := s) (L := [[x0, x1, x2, x3], [x5, x6], [x8, x9]]) (by rw [hl]; exact c2)
 · show (4 : Nat) ≤ _; omega
 · show (2 : Nat) ≤ _; omega
 · show (2 : Nat) ≤ _; omega
 · have ga : goodP 4 ⟨#[x0, x1, x2, x3]⟩ = true := by unfold goodP; rw [Bool.and_eq_true]; exact ⟨rfl, da⟩
   have gb : goodP 2 ⟨#[x5, x6]⟩ = true := by unfold goodP; rw [Bool.and_eq_true]; exact ⟨rfl, db⟩
   have gc : goodP 2 ⟨#[x8, x9]⟩ = true := by unfold goodP; rw [Bool.and_eq_true]; exact ⟨rfl, dc⟩
   have pa : pv ⟨#[x0, x1, x2, x3]⟩ = fold10 s 0 4 := by
     unfold pv
     show (((decFrom 0 [x0, x1, x2, x3]).getD 0 : Nat) : Int) = _
     simp [decFrom, digitVal_of h0, digitVal_of h1, digitVal_of h2, digitVal_of h3, fold10, e]
   have pb : pv ⟨#[x5, x6]⟩ = fold10 s 5 2 := by
     unfold pv
     show (((decFrom 0 [x5, x6]).getD 0 : Nat) : Int) = _
     simp [decFrom, digitVal_of h5, digitVal_of h6, fold10, e]
   have pc : pv ⟨#[x8, x9]⟩ = fold10 s 8 2 := by
     unfold pv
     show (((decFrom 0 [x8, x9]).getD 0 : Nat) : Int) = _
     simp [decFrom, digitVal_of h8, digitVal_of h9, fold10, e]
   unfold parseR
   simp only [ga, gb, gc, Bool.and_self, if_true]
   rw [pa, pb, pc]
theorem split_wf {s a b c : ByteArray} (hp : splitB ⟨#[45]⟩ 0 2 s = [a, b, c]) (ga : goodP 4 a = true) (gb : goodP 2 b = true) (gc : goodP 2 c = true) : wf s := by
 have h1 := splitB_data ⟨#[45]⟩ 0 2 s
 rw [show (⟨#[45]⟩ : ByteArray).data.toList = [45] from rfl, hp] at h1
 have h2 := join_split 2 s.data.toList
 rw [← h1] at h2
 have h3 : a.data.toList ++ 45 :: (b.data.toList ++ 45 :: c.data.toList) = s.data.toList := h2
 unfold goodP at ga gb gc
 rw [Bool.and_eq_true] at ga gb gc
 obtain ⟨x0, x1, x2, x3, ha⟩ := four (l := a.data.toList) (by have := beq_iff_eq.1 ga.1; simpa using this)
 obtain ⟨x5, x6, hb⟩ := two (l := b.data.toList) (by have := beq_iff_eq.1 gb.1; simpa using this)
 obtain ⟨x8, x9, hc⟩ := two (l := c.data.toList) (by have := beq_iff_eq.1 gc.1; simpa using this)
 rw [ha, hb, hc] at h3
 have da := allDig_iff.1 (ha ▸ ga.2)
 have db := allDig_iff.1 (hb ▸ gb.2)
 have dc := allDig_iff.1 (hc ▸ gc.2)
 have hl : s.data.toList = [x0, x1, x2, x3, 45, x5, x6, 45, x8, x9] := h3.symm
 have e : ∀ j, byteAt s j = [x0, x1, x2, x3, 45, x5, x6, 45, x8, x9].getD j 0 := fun j => by unfold byteAt; rw [hl]
 refine ⟨?_, fun j hj => ?_⟩
 · have : s.data.toList.length = 10 := by rw [hl]; rfl
   simpa using this
 · rw [e]
   match j, hj with
   | 0, _ => exact da x0 (by simp)
   | 1, _ => exact da x1 (by simp)
   | 2, _ => exact da x2 (by simp)
   | 3, _ => exact da x3 (by simp)
   | 4, _ => rfl
   | 5, _ => exact db x5 (by simp)
   | 6, _ => exact db x6 (by simp)
   | 7, _ => rfl
   | 8, _ => exact dc x8 (by simp)
   | 9, _ => exact dc x9 (by simp)
   | n + 10, h => omega
theorem splitB_three {s : ByteArray} (h : countB s ⟨#[45]⟩ = 2) : ∃ a b c, splitB ⟨#[45]⟩ 0 2 s = [a, b, c] ∧ a.size ≤ s.size ∧ b.size ≤ s.size ∧ c.size ≤ s.size := by
 have hl := splitB_all ⟨#[45]⟩ (by decide) 0 2 s h
 match hq : splitB ⟨#[45]⟩ 0 2 s, hl with
 | [a, b, c], _ =>
   refine ⟨a, b, c, rfl, ?_⟩
   have h1 := splitB_data ⟨#[45]⟩ 0 2 s
   rw [show (⟨#[45]⟩ : ByteArray).data.toList = [45] from rfl, hq] at h1
   have h2 := join_split 2 s.data.toList
   rw [← h1] at h2
   have h3 : a.data.toList ++ 45 :: (b.data.toList ++ 45 :: c.data.toList) = s.data.toList := h2
   have h4 := congrArg List.length h3
   simp at h4
   simp only [ByteArray.size] at *
   omega
theorem split_any (s : ByteArray) (m : Int) (n : Nat) (hs : s.size < 4294967281) (hn : countB s ⟨#[45]⟩ + 1 = n) (w : World) (hm : w.cell? ⟨5, 0, none⟩ = some (.int .i64 m)) :
   Calls Tryz.prog 154 #[.string s, .string ⟨#[45]⟩] w fun e w' => e = .returned (.slice (some ⟨w.heap.size, 0, none⟩) n n) ∧ Below w.heap.size w w' := by
 refine (Tryz.strings_Split s ⟨#[45]⟩ m w hs hm (by decide)).mono ?_
 rintro e w' ⟨rfl, rfl⟩
 rw [hn]
 exact ⟨rfl, by (repeat' first | (with_reducible first | exact .refl _ _ | assumption | apply balloc | apply Below.drew | apply bset | refine bstep ?_ ‹_› | refine bturn ?_ ‹_› ?_) | go_size)⟩
set_option maxHeartbeats 1000000 in
theorem parse_few (s : ByteArray) (m : Int) (n : Nat) (hs : s.size < 4294967281) (hn : countB s ⟨#[45]⟩ + 1 = n) (hn3 : ¬ n = 3) (w : World) (hm : w.cell? ⟨5, 0, none⟩ = some (.int .i64 m)) :
   Calls Tryz.prog 116 #[.string s] w fun e w' => e = .returned (.tuple #[.int .i64 0, .int .i64 5]) ∧ Below w.heap.size w w' := by
 have HS := Lib.hid (split_any s m n hs hn)
 have hn3' : ((n : Int) == 3) = false := by simp; omega
 clear hs hn
 go_enter Tryz.func116, Tryz.ntmps116
 go_wp2_with fail
 refine (HS.out _ hm).mono ?_
 rintro e w1 ⟨rfl, hb⟩
 clear hm
 go_wp2
 go_returns
 exact ⟨rfl, by (repeat' first | (with_reducible first | exact .refl _ _ | assumption | apply balloc | apply Below.drew | apply bset | refine bstep ?_ ‹_› | refine bturn ?_ ‹_› ?_) | go_size)⟩
/-- Both sides read a text alike. -/
theorem parses (s : ByteArray) (m : Int) (hs : s.size < 4294967281) : ∃ n e : Int, (∀ w : World, w.cell? ⟨5, 0, none⟩ = some (.int .i64 m) → Calls Tryz.prog 116 #[.string s] w fun x w' => x = .returned (.tuple #[.int .i64 n, .int .i64 e]) ∧ Below w.heap.size w w') ∧ (∀ _ : World, True) := by
 by_cases hw : wf s
 · obtain ⟨a, b, c, h1, h2, h3, h4, h5, h6⟩ := wf_split hw
   refine ⟨_, _, fun w hm => parse_parts s a b c m hs h3 h4 h5 h1 h2 w hm, fun w => ?_⟩
   exact trivial
 · have hr : ∀ _ : World, True := fun _ => trivial
   refine ⟨0, 5, fun w hm => ?_, hr⟩
   by_cases h2 : countB s ⟨#[45]⟩ = 2
   · obtain ⟨a, b, c, hp, l1, l2, l3⟩ := splitB_three h2
     have hbad : parseR a b c = ⟨0, 5⟩ := by
       unfold parseR
       rw [if_neg]
       intro hg
       simp only [Bool.and_eq_true] at hg
       exact hw (split_wf hp hg.1.1 hg.1.2 hg.2)
     have := parse_parts s a b c m hs (by omega) (by omega) (by omega) h2 hp w hm
     rw [hbad] at this
     exact this
   · exact parse_few s m _ hs rfl (by omega) w hm
end Go.Proofs.YtapilekangmcoaaGreatDoor.Days
