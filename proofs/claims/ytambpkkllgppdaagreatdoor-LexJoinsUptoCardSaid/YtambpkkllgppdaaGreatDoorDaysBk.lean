/- The walk of DaysBack. -/
import Derived.Test.YtambpkkllgppdaaGreatDoorDaysR
namespace Go.Proofs.YtambpkkllgppdaaGreatDoor.Days
open Go.RowKit
open Go.Lib hiding intOf

theorem good_pd (k n : Nat) : goodP k ⟨(pd k n).toArray⟩ = true := by
  unfold goodP
  rw [Bool.and_eq_true]
  refine ⟨?_, allDig_pd k n⟩
  rw [beq_iff_eq]
  exact pd_length k n
theorem pv_pd (k n : Nat) (h : n < 10 ^ k) : pv ⟨(pd k n).toArray⟩ = n := by
  unfold pv
  show (((decFrom 0 (pd k n)).getD 0 : Nat) : Int) = n
  rw [decFrom_pd k n h]
  rfl
theorem splitB_of {s : ByteArray} {k : Nat} {L : List (List UInt8)} (h : splitK [45] 0 k s.data.toList = L) : splitB ⟨#[45]⟩ 0 k s = L.map fun l => ⟨l.toArray⟩ := by
  have h1 := splitB_data ⟨#[45]⟩ 0 k s
  rw [show (⟨#[45]⟩ : ByteArray).data.toList = [45] from rfl, h] at h1
  rw [← h1, List.map_map]
  conv => lhs; rw [← List.map_id (splitB ⟨#[45]⟩ 0 k s)]
  apply List.map_congr_left
  intro a _
  rfl
theorem parse_text (y m d : Nat) (hy : y < 10000) (hmo : m < 100) (hd : d < 100) (q : Int) (s : ByteArray) (hs : ⟨(textL y m d).toArray⟩ = s) (w : World) (hm : w.cell? ⟨0, 0, none⟩ = some (.int .i64 q)) :
    Calls Tryz.prog 34 #[.string s] w fun e w' => e = .returned (.tuple #[.int .i64 (dayR y m d).n, .int .i64 (dayR y m d).e]) ∧ Below w.heap.size w w' := by
  subst hs
  obtain ⟨h1, h2⟩ := split3 (a := pd 4 y) (b := pd 2 m) (c := pd 2 d) (allDig_no45 (allDig_pd _ _)) (allDig_no45 (allDig_pd _ _)) (allDig_no45 (allDig_pd _ _))
  have hsz : (⟨(textL y m d).toArray⟩ : ByteArray).size = 10 := textL_length y m d
  have h3 : splitB ⟨#[45]⟩ 0 2 ⟨(textL y m d).toArray⟩ = [⟨(pd 4 y).toArray⟩, ⟨(pd 2 m).toArray⟩, ⟨(pd 2 d).toArray⟩] := splitB_of (s := ⟨(textL y m d).toArray⟩) (L := [pd 4 y, pd 2 m, pd 2 d]) h2
  refine (parse_parts ⟨(textL y m d).toArray⟩ ⟨(pd 4 y).toArray⟩ ⟨(pd 2 m).toArray⟩ ⟨(pd 2 d).toArray⟩ q (by omega) ?_ ?_ ?_ h1 h3 w hm).mono ?_
  · show (pd 4 y).toArray.size ≤ _; simp [pd_length]
  · show (pd 2 m).toArray.size ≤ _; simp [pd_length]
  · show (pd 2 d).toArray.size ≤ _; simp [pd_length]
  rintro e w' ⟨rfl, hb⟩
  refine ⟨?_, hb⟩
  unfold parseR
  simp only [good_pd, Bool.and_self, if_true]
  rw [pv_pd 4 y (by omega), pv_pd 2 m (by omega), pv_pd 2 d (by omega)]

theorem len_12 (y : Int) : lenS y 12 = 31 := by simp [lenS]
/-- What date the day behind a date has. -/
theorem next_date {k y : Int} {m : Nat} (k1 : k < 3652058) (a : 1 ≤ y) (b : y ≤ 9999) (c : m < 12) (d : firstS y + cumS y m ≤ k) (e : k < firstS y + cumS y (m + 1)) (f : firstS y ≤ k) (g : k < firstS (y + 1)) :
    ∃ p1 p2 p3 : Int, (∀ w, Calls Tryz.prog 75 #[.int .i64 (k + 1)] w fun e w' => e = .returned (.tuple #[.int .i64 p1, .int .i64 p2, .int .i64 p3, .int .i64 0]) ∧ w = w') ∧
      ((p1 = y ∧ p2 = (m : Int) + 1 ∧ p3 = k - firstS y - cumS y m + 1 + 1) ∨ (p1 = y ∧ p2 = (m : Int) + 1 + 1 ∧ p3 = 1 ∧ 28 ≤ k - firstS y - cumS y m + 1) ∨ (p1 = y + 1 ∧ p2 = 1 ∧ p3 = 1 ∧ (m : Int) + 1 = 12 ∧ k - firstS y - cumS y m + 1 = 31)) := by
  have hf := first_ge a
  have hc := cum_bd y m
  have hl := len_bd y ((m : Int) + 1)
  have hs := cum_succ y m
  have hy := first_succ y
  have h12 := cum_12 y
  by_cases h1 : k + 1 < firstS y + cumS y (m + 1)
  · have hm2 := cum_mono y (a := m + 1) (b := 12) (by omega)
    refine ⟨_, _, _, fun w => date_ok (k + 1) y m (by omega) (by omega) a b c (by omega) h1 (by omega) (by omega) w, .inl ⟨rfl, rfl, by omega⟩⟩
  · by_cases h2 : m + 1 < 12
    · have hm2 := cum_mono y (a := m + 1 + 1) (b := 12) (by omega)
      have hl2 := len_bd y (((m + 1 : Nat) : Int) + 1)
      have hs2 := cum_succ y (m + 1)
      refine ⟨_, _, _, fun w => date_ok (k + 1) y (m + 1) (by omega) (by omega) a b h2 (by omega) (by omega) (by omega) (by omega) w, .inr (.inl ⟨rfl, by omega, by omega, by omega⟩)⟩
    · have hm11 : m = 11 := by omega
      subst hm11
      have hl12 := len_12 y
      have hs' : cumS y 12 = cumS y 11 + lenS y 12 := hs
      have e' : k < firstS y + cumS y 12 := e
      have h1' : ¬ k + 1 < firstS y + cumS y 12 := h1
      clear hs hl e h1 hc
      have hy2 := first_succ (y + 1)
      have hyb := year_bd (y + 1)
      have hs1 := cum_succ (y + 1) 0
      have hl1 := len_bd (y + 1) (((0 : Nat) : Int) + 1)
      have h0 : cumS (y + 1) 0 = 0 := rfl
      have hy9 : y ≤ 9998 := by
        apply Int.le_of_not_gt
        intro hgt
        obtain rfl : y = 9999 := by omega
        have := first_10000
        rw [show (9999 : Int) + 1 = 10000 by decide] at hy g
        omega
      have hs1' : cumS (y + 1) (0 + 1) = cumS (y + 1) 0 + lenS (y + 1) (((0 : Nat) : Int) + 1) := hs1
      refine ⟨_, _, _, fun w => date_ok (k + 1) (y + 1) 0 (by omega) (by omega) (by omega) (by omega) (by omega) (by omega) (by omega) (by omega) (by omega) w, .inr (.inr ⟨rfl, by rfl, by omega, by rfl, by omega⟩)⟩

end Go.Proofs.YtambpkkllgppdaaGreatDoor.Days
