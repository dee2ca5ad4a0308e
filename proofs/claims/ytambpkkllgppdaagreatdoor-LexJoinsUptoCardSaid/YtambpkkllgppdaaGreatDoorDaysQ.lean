/- The walk of package days: Parse. -/
import Derived.Test.YtambpkkllgppdaaGreatDoorDaysP
import Derived.Shelf.Strings.SlTrimAscii
import Derived.Lib.AtoiErrMem
namespace Go.Proofs.YtambpkkllgppdaaGreatDoor.Days
open Go.RowKit
open Go.Lib hiding intOf

/-- A date's day, or the error. -/
structure DayR where
  n : Int
  e : Int
def dayR (y m d : Int) : DayR := if okD y m d then ⟨dayN y m d, 0⟩ else ⟨0, 3⟩
theorem day_any (y m d : Int) (w : World) : Calls Tryz.prog 64 #[.int .i64 y, .int .i64 m, .int .i64 d] w fun e w' => e = .returned (.tuple #[.int .i64 (dayR y m d).n, .int .i64 (dayR y m d).e]) ∧ w = w' := by
  unfold dayR
  by_cases h : okD y m d
  · rw [if_pos h]; exact day_ok y m d h w
  · rw [if_neg h]; exact day_bad y m d h w

theorem trim_good {s : ByteArray} (hs : s.size ≤ 9223372036854775807) (h : allDig s.data.toList = true) (w : World) :
    Calls Tryz.prog 62 #[.string s, .string ⟨#[48, 49, 50, 51, 52, 53, 54, 55, 56, 57]⟩] w fun e w' => e = .returned (.string ⟨#[]⟩) ∧ Below w.heap.size w w' := by
  refine (Any.strings_Trim_laid Tryz.lays160 (by kernel_rfl) s ⟨#[48, 49, 50, 51, 52, 53, 54, 55, 56, 57]⟩ w hs (by decide) (ascii_of_all (by decide))).mono ?_
  rintro e w' ⟨rfl, hb⟩
  have h2 := trim_digits s.data.toList
  rw [h] at h2
  have h3 : trimS s.data.toList cutset.data.toList = [] := List.isEmpty_iff.1 h2
  refine ⟨?_, hb⟩
  show Ending.returned (.string ⟨(trimS s.data.toList cutset.data.toList).toArray⟩) = _
  rw [h3]
theorem trim_bad {s : ByteArray} (hs : s.size ≤ 9223372036854775807) (h : allDig s.data.toList = false) (w : World) :
    Calls Tryz.prog 62 #[.string s, .string ⟨#[48, 49, 50, 51, 52, 53, 54, 55, 56, 57]⟩] w fun e w' => (∃ R : ByteArray, e = .returned (.string R) ∧ (R.toList == []) = false) ∧ Below w.heap.size w w' := by
  refine (Any.strings_Trim_laid Tryz.lays160 (by kernel_rfl) s ⟨#[48, 49, 50, 51, 52, 53, 54, 55, 56, 57]⟩ w hs (by decide) (ascii_of_all (by decide))).mono ?_
  rintro e w' ⟨rfl, hb⟩
  have h2 := trim_digits s.data.toList
  rw [h] at h2
  refine ⟨⟨_, rfl, ?_⟩, hb⟩
  rw [Lib.toList_data]
  show ((trimS s.data.toList cutset.data.toList).toArray.toList == []) = false
  cases hc : trimS s.data.toList cutset.data.toList with
  | nil => rw [hc] at h2; simp at h2
  | cons a t => rfl

theorem decFrom_some : ∀ (l : List UInt8) (a : Nat), allDig l = true → ∃ n, decFrom a l = some n
  | [], a, _ => ⟨a, rfl⟩
  | b :: l, a, h => by
    unfold allDig at h
    rw [List.all_cons, Bool.and_eq_true] at h
    rw [decFrom, digitVal, if_pos (of_decide_eq_true h.1)]
    exact decFrom_some l _ h.2
def pv (s : ByteArray) : Int := (((decFrom 0 s.data.toList).getD 0 : Nat) : Int)
def goodP (k : Nat) (s : ByteArray) : Bool := s.size == k && allDig s.data.toList
theorem good_atoi {k : Nat} {s : ByteArray} (hk : 0 < k) (h : goodP k s = true) : atoi s.data.toList = some (pv s) := by
  unfold goodP at h
  rw [Bool.and_eq_true] at h
  have h1 : s.size = k := by simpa using h.1
  obtain ⟨n, hn⟩ := decFrom_some s.data.toList 0 h.2
  have hne : s.data.toList ≠ [] := by
    intro e
    have : s.data.toList.length = s.size := by simp
    rw [e] at this
    simp at this
    omega
  unfold pv
  rw [hn]
  exact atoi_digits hne h.2 hn
theorem atoi_good {k : Nat} {s : ByteArray} (hk : 0 < k) (hk4 : k ≤ 18) (h : goodP k s = true) (w : World) :
    Calls Tryz.prog 63 #[.string s] w fun e w' => e = .returned (.tuple #[.int .i64 (pv s), .nilIface]) ∧ Below w.heap.size w w' := by
  have h1 : s.size = k := by unfold goodP at h; rw [Bool.and_eq_true] at h; simpa using h.1
  refine (Tryz.strconv_Atoi s (pv s) (by omega) (good_atoi hk h) w).mono ?_
  rintro e w' ⟨rfl, t, rfl⟩
  exact ⟨rfl, Lib.bytesWorld_below _ _ _⟩

def parseR (a b c : ByteArray) : DayR := if goodP 4 a && goodP 2 b && goodP 2 c then dayR (pv a) (pv b) (pv c) else ⟨0, 5⟩
def arrK (x y z : Int) : Nat → Array Value
  | 0 => #[.int .i64 0, .int .i64 0, .int .i64 0]
  | 1 => #[.int .i64 x, .int .i64 0, .int .i64 0]
  | 2 => #[.int .i64 x, .int .i64 y, .int .i64 0]
  | _ => #[.int .i64 x, .int .i64 y, .int .i64 z]

theorem split_lit (s a b c : ByteArray) (m : Int) (hs : s.size < 4294967281) (hn : countB s ⟨#[45]⟩ = 2) (hp : splitB ⟨#[45]⟩ 0 2 s = [a, b, c]) (w : World) (hm : w.cell? ⟨0, 0, none⟩ = some (.int .i64 m)) :
    Calls Tryz.prog 61 #[.string s, .string ⟨#[45]⟩] w fun e w' => e = .returned (.slice (some ⟨w.heap.size, 0, none⟩) 3 3) ∧ w' = w.alloc (.cells #[.string a, .string b, .string c] 9) := by
  refine (Tryz.strings_Split s ⟨#[45]⟩ m w hs hm (by decide)).mono ?_
  rintro e w' ⟨rfl, rfl⟩
  rw [hn, hp]
  exact ⟨rfl, rfl⟩

set_option maxHeartbeats 4000000 in
set_option maxRecDepth 100000 in
theorem parse_parts (s a b c : ByteArray) (m : Int) (hs : s.size < 4294967281) (ha : a.size ≤ 4294967281) (hb : b.size ≤ 4294967281) (hc : c.size ≤ 4294967281) (hn : countB s ⟨#[45]⟩ = 2) (hp : splitB ⟨#[45]⟩ 0 2 s = [a, b, c]) (w : World) (hm : w.cell? ⟨0, 0, none⟩ = some (.int .i64 m)) :
    Calls Tryz.prog 34 #[.string s] w fun e w' => e = .returned (.tuple #[.int .i64 (parseR a b c).n, .int .i64 (parseR a b c).e]) ∧ Below w.heap.size w w' := by
  have HSp := Lib.hid (split_lit s a b c m hs hn hp)
  have HR : Hid (parseR a b c = if goodP 4 a && goodP 2 b && goodP 2 c then dayR (pv a) (pv b) (pv c) else ⟨0, 5⟩) := rfl
  clear hs hn hp
  go_enter Tryz.func34, Tryz.ntmps34
  go_wp2_with fail
  refine (HSp.out _ hm).mono ?_
  rintro e w1 ⟨rfl, rfl⟩
  go_wp2
  go_loopw [15] (fun i wr => ∃ k : Nat, k ≤ 3 ∧ i = .int .i64 k ∧ Blk wr w.heap.size 9 #[.string a, .string b, .string c] ∧ Blk wr (w.heap.size + 1) 85 (arrK (pv a) (pv b) (pv c) k) ∧ Below w.heap.size w wr ∧ (0 < k → goodP 4 a = true) ∧ (1 < k → goodP 2 b = true) ∧ (2 < k → goodP 2 c = true)) (fun i _ => 3 - (intOf i).toNat)
  case atStart => exact ⟨0, by omega, rfl, (Blk.new _ _ _).alloc _, Blk.new' _ _ _ (by simp), by (repeat' (first | (with_reducible exact Below.refl _ _) | (with_reducible assumption) | (with_reducible refine balloc ?_ _) | (with_reducible refine Below.drew ?_) | (with_reducible refine bset ?_ ?_ _) | (with_reducible refine bstep ?_ (by with_reducible assumption)) | (with_reducible refine bturn ?_ (by with_reducible assumption) ?_) | go_size)), by omega, by omega, by omega⟩
  case round =>
    obtain ⟨k, hk, hi, hb0, hb1, hbl, hg⟩ := hrel
    have HG := Lib.hid hg
    clear hg hm
    have hl0 := hb0.lt
    have hl1 := hb1.lt
    have c0 := hb0.cell 0
    have c1 := hb0.cell 1
    have c2 := hb0.cell 2
    simp at c0 c1 c2
    have hk3 : k = 0 ∨ k = 1 ∨ k = 2 ∨ k = 3 := by omega
    have hm0 : min (0 : Int) 2 = 0 := rfl
    have hm2 : min (2 : Int) 2 = 2 := rfl
    have hm4 : min (4 : Int) 2 = 2 := rfl
    rcases hk3 with rfl | rfl | rfl | rfl
    · obtain rfl : _ = Value.int .i64 0 := hi
      clear hk
      by_cases hsz : a.size = 4
      · have hszi : (a.size : Int) = 4 := by omega
        cases hdg : allDig a.data.toList with
        | true =>
          have hg : goodP 4 a = true := by unfold goodP; rw [hsz, hdg]; rfl
          have HTr := Lib.hid (fun w => trim_good (s := a) (by omega) hdg w)
          have HAt := Lib.hid (fun w => atoi_good (k := 4) (by omega) (by omega) hg w)
          have HGa := Lib.hid hg
          clear hdg hg hsz
          go_wp2_with fail
          refine (HTr.out _).mono ?_
          rintro e w2 ⟨rfl, hw2⟩
          go_wp2_with fail
          refine (HAt.out _).mono ?_
          rintro e w3 ⟨rfl, hw3⟩
          replace hb0 := (hb0.step hw2).step hw3
          replace hb1 := (hb1.step hw2).step hw3
          have z0 := hb1.frozen 0
          have d0 : w3.cell? ⟨w.heap.size + 1, 0, none⟩ = some (.int .i64 0) := hb1.cell 0
          clear c0 c1 c2
          go_wp2
          go_roundw
          case rel => exact ⟨1, by omega, by rfl, hb0.far (by simp) _, hb1.set_ 0 (.int .i64 (pv a)), bset (by (repeat' (first | (with_reducible exact Below.refl _ _) | (with_reducible assumption) | (with_reducible refine balloc ?_ _) | (with_reducible refine Below.drew ?_) | (with_reducible refine bset ?_ ?_ _) | (with_reducible refine bstep ?_ (by with_reducible assumption)) | (with_reducible refine bturn ?_ (by with_reducible assumption) ?_) | go_size))) (by simp) _, fun _ => HGa.out, by omega, by omega⟩
          case measure => decide
        | false =>
          have hg : goodP 4 a = false := by unfold goodP; rw [hdg]; simp
          have HTb := Lib.hid (fun w => trim_bad (s := a) (by omega) hdg w)
          have HGa := Lib.hid hg
          clear hdg hg hsz
          go_wp2_with fail
          refine (HTb.out _).mono ?_
          rintro e w2 ⟨⟨R, rfl, hR⟩, hw2⟩
          go_wp2
          go_returns
          exact ⟨by rw [HR.out, HGa.out]; simp, by (repeat' (first | (with_reducible exact Below.refl _ _) | (with_reducible assumption) | (with_reducible refine balloc ?_ _) | (with_reducible refine Below.drew ?_) | (with_reducible refine bset ?_ ?_ _) | (with_reducible refine bstep ?_ (by with_reducible assumption)) | (with_reducible refine bturn ?_ (by with_reducible assumption) ?_) | go_size))⟩
      · have hszi : ¬ (a.size : Int) = 4 := by omega
        have hg : goodP 4 a = false := by unfold goodP; simp [hsz]
        have HGa := Lib.hid hg
        clear hg hsz
        go_wp2
        go_returns
        exact ⟨by rw [HR.out, HGa.out]; simp, by (repeat' (first | (with_reducible exact Below.refl _ _) | (with_reducible assumption) | (with_reducible refine balloc ?_ _) | (with_reducible refine Below.drew ?_) | (with_reducible refine bset ?_ ?_ _) | (with_reducible refine bstep ?_ (by with_reducible assumption)) | (with_reducible refine bturn ?_ (by with_reducible assumption) ?_) | go_size))⟩
    · obtain rfl : _ = Value.int .i64 1 := hi
      clear hk
      by_cases hsz : b.size = 2
      · have hszi : (b.size : Int) = 2 := by omega
        cases hdg : allDig b.data.toList with
        | true =>
          have hg : goodP 2 b = true := by unfold goodP; rw [hsz, hdg]; rfl
          have HTr := Lib.hid (fun w => trim_good (s := b) (by omega) hdg w)
          have HAt := Lib.hid (fun w => atoi_good (k := 2) (by omega) (by omega) hg w)
          have HGa := Lib.hid hg
          clear hdg hg hsz
          go_wp2_with fail
          refine (HTr.out _).mono ?_
          rintro e w2 ⟨rfl, hw2⟩
          go_wp2_with fail
          refine (HAt.out _).mono ?_
          rintro e w3 ⟨rfl, hw3⟩
          replace hb0 := (hb0.step hw2).step hw3
          replace hb1 := (hb1.step hw2).step hw3
          have z0 := hb1.frozen 1
          have d0 : w3.cell? ⟨w.heap.size + 1, 1, none⟩ = some (.int .i64 0) := hb1.cell 1
          clear c0 c1 c2
          go_wp2
          go_roundw
          case rel => exact ⟨2, by omega, by rfl, hb0.far (by simp) _, hb1.set_ 1 (.int .i64 (pv b)), bset (by (repeat' (first | (with_reducible exact Below.refl _ _) | (with_reducible assumption) | (with_reducible refine balloc ?_ _) | (with_reducible refine Below.drew ?_) | (with_reducible refine bset ?_ ?_ _) | (with_reducible refine bstep ?_ (by with_reducible assumption)) | (with_reducible refine bturn ?_ (by with_reducible assumption) ?_) | go_size))) (by simp) _, fun _ => HG.out.1 (by omega), fun _ => HGa.out, by omega⟩
          case measure => decide
        | false =>
          have hg : goodP 2 b = false := by unfold goodP; rw [hdg]; simp
          have HTb := Lib.hid (fun w => trim_bad (s := b) (by omega) hdg w)
          have HGa := Lib.hid hg
          clear hdg hg hsz
          go_wp2_with fail
          refine (HTb.out _).mono ?_
          rintro e w2 ⟨⟨R, rfl, hR⟩, hw2⟩
          go_wp2
          go_returns
          exact ⟨by rw [HR.out, HGa.out]; simp, by (repeat' (first | (with_reducible exact Below.refl _ _) | (with_reducible assumption) | (with_reducible refine balloc ?_ _) | (with_reducible refine Below.drew ?_) | (with_reducible refine bset ?_ ?_ _) | (with_reducible refine bstep ?_ (by with_reducible assumption)) | (with_reducible refine bturn ?_ (by with_reducible assumption) ?_) | go_size))⟩
      · have hszi : ¬ (b.size : Int) = 2 := by omega
        have hg : goodP 2 b = false := by unfold goodP; simp [hsz]
        have HGa := Lib.hid hg
        clear hg hsz
        go_wp2
        go_returns
        exact ⟨by rw [HR.out, HGa.out]; simp, by (repeat' (first | (with_reducible exact Below.refl _ _) | (with_reducible assumption) | (with_reducible refine balloc ?_ _) | (with_reducible refine Below.drew ?_) | (with_reducible refine bset ?_ ?_ _) | (with_reducible refine bstep ?_ (by with_reducible assumption)) | (with_reducible refine bturn ?_ (by with_reducible assumption) ?_) | go_size))⟩
    · obtain rfl : _ = Value.int .i64 2 := hi
      clear hk
      by_cases hsz : c.size = 2
      · have hszi : (c.size : Int) = 2 := by omega
        cases hdg : allDig c.data.toList with
        | true =>
          have hg : goodP 2 c = true := by unfold goodP; rw [hsz, hdg]; rfl
          have HTr := Lib.hid (fun w => trim_good (s := c) (by omega) hdg w)
          have HAt := Lib.hid (fun w => atoi_good (k := 2) (by omega) (by omega) hg w)
          have HGa := Lib.hid hg
          clear hdg hg hsz
          go_wp2_with fail
          refine (HTr.out _).mono ?_
          rintro e w2 ⟨rfl, hw2⟩
          go_wp2_with fail
          refine (HAt.out _).mono ?_
          rintro e w3 ⟨rfl, hw3⟩
          replace hb0 := (hb0.step hw2).step hw3
          replace hb1 := (hb1.step hw2).step hw3
          have z0 := hb1.frozen 2
          have d0 : w3.cell? ⟨w.heap.size + 1, 2, none⟩ = some (.int .i64 0) := hb1.cell 2
          clear c0 c1 c2
          go_wp2
          go_roundw
          case rel => exact ⟨3, by omega, by rfl, hb0.far (by simp) _, hb1.set_ 2 (.int .i64 (pv c)), bset (by (repeat' (first | (with_reducible exact Below.refl _ _) | (with_reducible assumption) | (with_reducible refine balloc ?_ _) | (with_reducible refine Below.drew ?_) | (with_reducible refine bset ?_ ?_ _) | (with_reducible refine bstep ?_ (by with_reducible assumption)) | (with_reducible refine bturn ?_ (by with_reducible assumption) ?_) | go_size))) (by simp) _, fun _ => HG.out.1 (by omega), fun _ => HG.out.2.1 (by omega), fun _ => HGa.out⟩
          case measure => decide
        | false =>
          have hg : goodP 2 c = false := by unfold goodP; rw [hdg]; simp
          have HTb := Lib.hid (fun w => trim_bad (s := c) (by omega) hdg w)
          have HGa := Lib.hid hg
          clear hdg hg hsz
          go_wp2_with fail
          refine (HTb.out _).mono ?_
          rintro e w2 ⟨⟨R, rfl, hR⟩, hw2⟩
          go_wp2
          go_returns
          exact ⟨by rw [HR.out, HGa.out]; simp, by (repeat' (first | (with_reducible exact Below.refl _ _) | (with_reducible assumption) | (with_reducible refine balloc ?_ _) | (with_reducible refine Below.drew ?_) | (with_reducible refine bset ?_ ?_ _) | (with_reducible refine bstep ?_ (by with_reducible assumption)) | (with_reducible refine bturn ?_ (by with_reducible assumption) ?_) | go_size))⟩
      · have hszi : ¬ (c.size : Int) = 2 := by omega
        have hg : goodP 2 c = false := by unfold goodP; simp [hsz]
        have HGa := Lib.hid hg
        clear hg hsz
        go_wp2
        go_returns
        exact ⟨by rw [HR.out, HGa.out]; simp, by (repeat' (first | (with_reducible exact Below.refl _ _) | (with_reducible assumption) | (with_reducible refine balloc ?_ _) | (with_reducible refine Below.drew ?_) | (with_reducible refine bset ?_ ?_ _) | (with_reducible refine bstep ?_ (by with_reducible assumption)) | (with_reducible refine bturn ?_ (by with_reducible assumption) ?_) | go_size))⟩
    · obtain rfl : _ = Value.int .i64 3 := hi
      have d0 : wr.cell? ⟨w.heap.size + 1, 0, none⟩ = some (.int .i64 (pv a)) := hb1.cell 0
      have d1 : wr.cell? ⟨w.heap.size + 1, 1, none⟩ = some (.int .i64 (pv b)) := hb1.cell 1
      have d2 : wr.cell? ⟨w.heap.size + 1, 2, none⟩ = some (.int .i64 (pv c)) := hb1.cell 2
      clear c0 c1 c2 hk
      go_wp2_with fail
      refine (day_any (pv a) (pv b) (pv c) _).mono ?_
      rintro e w2 ⟨rfl, rfl⟩
      go_wp2
      go_returns
      exact ⟨by rw [HR.out, HG.out.1 (by omega), HG.out.2.1 (by omega), HG.out.2.2 (by omega)]; rfl, by (repeat' (first | (with_reducible exact Below.refl _ _) | (with_reducible assumption) | (with_reducible refine balloc ?_ _) | (with_reducible refine Below.drew ?_) | (with_reducible refine bset ?_ ?_ _) | (with_reducible refine bstep ?_ (by with_reducible assumption)) | (with_reducible refine bturn ?_ (by with_reducible assumption) ?_) | go_size))⟩
end Go.Proofs.YtambpkkllgppdaaGreatDoor.Days
