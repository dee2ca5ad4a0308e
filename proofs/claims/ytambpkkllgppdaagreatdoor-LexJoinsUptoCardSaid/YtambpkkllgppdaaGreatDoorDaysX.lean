/- Reading a day's text: both sides read alike; and the walk of DaysTexts. -/
import Derived.Test.YtambpkkllgppdaaGreatDoorDaysS
import Derived.Test.YtambpkkllgppdaaGreatDoorDaysBk
namespace Go.Proofs.YtambpkkllgppdaaGreatDoor.Days
open Go.RowKit
open Go.Lib hiding intOf

def joinS : List (List UInt8) → List UInt8
  | [] => []
  | [a] => a
  | a :: b :: r => a ++ 45 :: joinS (b :: r)
theorem splitK_cons (k : Nat) (l : List UInt8) : ∃ a r, splitK [45] 0 k l = a :: r := by
  cases k with
  | zero => exact ⟨l, [], rfl⟩
  | succ k =>
    unfold splitK
    split
    · exact ⟨_, _, rfl⟩
    · exact ⟨_, _, rfl⟩
theorem join_split : ∀ (k : Nat) (l : List UInt8), joinS (splitK [45] 0 k l) = l
  | 0, _ => rfl
  | k + 1, l => by
    unfold splitK
    split
    · rfl
    · rename_i h
      rcases index_spec l [45] with ⟨h1, _⟩ | ⟨i, h1, h2, h3, _⟩
      · rw [h1] at h; exact absurd rfl h
      · rw [h1]
        obtain ⟨a, r, hs⟩ := splitK_cons k (l.drop (i + 1))
        have hh := occAt_head (c := 45) (t := []) rfl h3
        have hlt : i < l.length := by
          rw [List.getElem?_eq_some_iff] at hh
          exact hh.1
        show joinS (l.take (i + 0) :: splitK [45] 0 k (l.drop (i + 1))) = l
        rw [hs]
        show l.take (i + 0) ++ 45 :: joinS (a :: r) = l
        rw [← hs, join_split k, Nat.add_zero]
        have hg : l[i] = 45 := by
          rw [List.getElem?_eq_getElem hlt] at hh
          exact Option.some.inj hh
        rw [← hg, List.getElem_cons_drop, List.take_append_drop]

theorem ten {l : List UInt8} (h : l.length = 10) : ∃ x0 x1 x2 x3 x4 x5 x6 x7 x8 x9, l = [x0, x1, x2, x3, x4, x5, x6, x7, x8, x9] := by
  match l, h with
  | [x0, x1, x2, x3, x4, x5, x6, x7, x8, x9], _ => exact ⟨x0, x1, x2, x3, x4, x5, x6, x7, x8, x9, rfl⟩
theorem four {l : List UInt8} (h : l.length = 4) : ∃ x0 x1 x2 x3, l = [x0, x1, x2, x3] := by
  match l, h with
  | [x0, x1, x2, x3], _ => exact ⟨x0, x1, x2, x3, rfl⟩
theorem two {l : List UInt8} (h : l.length = 2) : ∃ x0 x1, l = [x0, x1] := by
  match l, h with
  | [x0, x1], _ => exact ⟨x0, x1, rfl⟩

theorem digitVal_of {b : UInt8} (h : isD b = true) : digitVal b = some (b.toNat - 48) := by
  unfold digitVal
  rw [if_pos (of_decide_eq_true h)]
theorem allDig_iff {l : List UInt8} : allDig l = true ↔ ∀ b ∈ l, isD b = true := List.all_eq_true

/-- What a well-formed text splits into. -/
theorem wf_split {s : ByteArray} (h : wf s) : ∃ a b c : ByteArray, countB s ⟨#[45]⟩ = 2 ∧ splitB ⟨#[45]⟩ 0 2 s = [a, b, c] ∧ a.size ≤ 4294967281 ∧ b.size ≤ 4294967281 ∧ c.size ≤ 4294967281 ∧ parseR a b c = dayR (fold10 s 0 4) (fold10 s 5 2) (fold10 s 8 2) := by
  obtain ⟨hs, hj⟩ := h
  have hlen : s.data.toList.length = 10 := by simpa using hs
  obtain ⟨x0, x1, x2, x3, x4, x5, x6, x7, x8, x9, hl⟩ := ten hlen
  have e : ∀ j, byteAt s j = [x0, x1, x2, x3, x4, x5, x6, x7, x8, x9].getD j 0 := fun j => by unfold byteAt; rw [hl]
  have h0 : isD x0 = true := by have := hj 0 (by decide); rw [e] at this; exact this
  have h1 : isD x1 = true := by have := hj 1 (by decide); rw [e] at this; exact this
  have h2 : isD x2 = true := by have := hj 2 (by decide); rw [e] at this; exact this
  have h3 : isD x3 = true := by have := hj 3 (by decide); rw [e] at this; exact this
  have h4 : x4 = 45 := by have := hj 4 (by decide); rw [e] at this; exact beq_iff_eq.1 this
  have h5 : isD x5 = true := by have := hj 5 (by decide); rw [e] at this; exact this
  have h6 : isD x6 = true := by have := hj 6 (by decide); rw [e] at this; exact this
  have h7 : x7 = 45 := by have := hj 7 (by decide); rw [e] at this; exact beq_iff_eq.1 this
  have h8 : isD x8 = true := by have := hj 8 (by decide); rw [e] at this; exact this
  have h9 : isD x9 = true := by have := hj 9 (by decide); rw [e] at this; exact this
  subst h4; subst h7
  have da : allDig [x0, x1, x2, x3] = true := allDig_iff.2 (by simp [h0, h1, h2, h3])
  have db : allDig [x5, x6] = true := allDig_iff.2 (by simp [h5, h6])
  have dc : allDig [x8, x9] = true := allDig_iff.2 (by simp [h8, h9])
  obtain ⟨c1, c2⟩ := split3 (a := [x0, x1, x2, x3]) (b := [x5, x6]) (c := [x8, x9]) (allDig_no45 da) (allDig_no45 db) (allDig_no45 dc)
  refine ⟨⟨#[x0, x1, x2, x3]⟩, ⟨#[x5, x6]⟩, ⟨#[x8, x9]⟩, ?_, ?_, ?_, ?_, ?_, ?_⟩
  · show count s.data.toList [45] = 2
    rw [hl]; exact c1
  · exact splitB_of (s := s) (L := [[x0, x1, x2, x3], [x5, x6], [x8, x9]]) (by rw [hl]; exact c2)
  · show (4 : Nat) ≤ _; omega
  · show (2 : Nat) ≤ _; omega
  · show (2 : Nat) ≤ _; omega
  · have ga : goodP 4 ⟨#[x0, x1, x2, x3]⟩ = true := by unfold goodP; rw [Bool.and_eq_true]; exact ⟨rfl, da⟩
    have gb : goodP 2 ⟨#[x5, x6]⟩ = true := by unfold goodP; rw [Bool.and_eq_true]; exact ⟨rfl, db⟩
    have gc : goodP 2 ⟨#[x8, x9]⟩ = true := by unfold goodP; rw [Bool.and_eq_true]; exact ⟨rfl, dc⟩
    have pa : pv ⟨#[x0, x1, x2, x3]⟩ = fold10 s 0 4 := by
      unfold pv
      show (((decFrom 0 [x0, x1, x2, x3]).getD 0 : Nat) : Int) = _
      simp [decFrom, digitVal_of h0, digitVal_of h1, digitVal_of h2, digitVal_of h3, fold10, e]
    have pb : pv ⟨#[x5, x6]⟩ = fold10 s 5 2 := by
      unfold pv
      show (((decFrom 0 [x5, x6]).getD 0 : Nat) : Int) = _
      simp [decFrom, digitVal_of h5, digitVal_of h6, fold10, e]
    have pc : pv ⟨#[x8, x9]⟩ = fold10 s 8 2 := by
      unfold pv
      show (((decFrom 0 [x8, x9]).getD 0 : Nat) : Int) = _
      simp [decFrom, digitVal_of h8, digitVal_of h9, fold10, e]
    unfold parseR
    simp only [ga, gb, gc, Bool.and_self, if_true]
    rw [pa, pb, pc]

theorem split_wf {s a b c : ByteArray} (hp : splitB ⟨#[45]⟩ 0 2 s = [a, b, c]) (ga : goodP 4 a = true) (gb : goodP 2 b = true) (gc : goodP 2 c = true) : wf s := by
  have h1 := splitB_data ⟨#[45]⟩ 0 2 s
  rw [show (⟨#[45]⟩ : ByteArray).data.toList = [45] from rfl, hp] at h1
  have h2 := join_split 2 s.data.toList
  rw [← h1] at h2
  have h3 : a.data.toList ++ 45 :: (b.data.toList ++ 45 :: c.data.toList) = s.data.toList := h2
  unfold goodP at ga gb gc
  rw [Bool.and_eq_true] at ga gb gc
  obtain ⟨x0, x1, x2, x3, ha⟩ := four (l := a.data.toList) (by have := beq_iff_eq.1 ga.1; simpa using this)
  obtain ⟨x5, x6, hb⟩ := two (l := b.data.toList) (by have := beq_iff_eq.1 gb.1; simpa using this)
  obtain ⟨x8, x9, hc⟩ := two (l := c.data.toList) (by have := beq_iff_eq.1 gc.1; simpa using this)
  rw [ha, hb, hc] at h3
  have da := allDig_iff.1 (ha ▸ ga.2)
  have db := allDig_iff.1 (hb ▸ gb.2)
  have dc := allDig_iff.1 (hc ▸ gc.2)
  have hl : s.data.toList = [x0, x1, x2, x3, 45, x5, x6, 45, x8, x9] := h3.symm
  have e : ∀ j, byteAt s j = [x0, x1, x2, x3, 45, x5, x6, 45, x8, x9].getD j 0 := fun j => by unfold byteAt; rw [hl]
  refine ⟨?_, fun j hj => ?_⟩
  · have : s.data.toList.length = 10 := by rw [hl]; rfl
    simpa using this
  · rw [e]
    match j, hj with
    | 0, _ => exact da x0 (by simp)
    | 1, _ => exact da x1 (by simp)
    | 2, _ => exact da x2 (by simp)
    | 3, _ => exact da x3 (by simp)
    | 4, _ => rfl
    | 5, _ => exact db x5 (by simp)
    | 6, _ => exact db x6 (by simp)
    | 7, _ => rfl
    | 8, _ => exact dc x8 (by simp)
    | 9, _ => exact dc x9 (by simp)
    | n + 10, h => omega

theorem splitB_three {s : ByteArray} (h : countB s ⟨#[45]⟩ = 2) : ∃ a b c, splitB ⟨#[45]⟩ 0 2 s = [a, b, c] ∧ a.size ≤ s.size ∧ b.size ≤ s.size ∧ c.size ≤ s.size := by
  have hl := splitB_all ⟨#[45]⟩ (by decide) 0 2 s h
  match hq : splitB ⟨#[45]⟩ 0 2 s, hl with
  | [a, b, c], _ =>
    refine ⟨a, b, c, rfl, ?_⟩
    have h1 := splitB_data ⟨#[45]⟩ 0 2 s
    rw [show (⟨#[45]⟩ : ByteArray).data.toList = [45] from rfl, hq] at h1
    have h2 := join_split 2 s.data.toList
    rw [← h1] at h2
    have h3 : a.data.toList ++ 45 :: (b.data.toList ++ 45 :: c.data.toList) = s.data.toList := h2
    have h4 := congrArg List.length h3
    simp at h4
    simp only [ByteArray.size] at *
    omega

theorem split_any (s : ByteArray) (m : Int) (n : Nat) (hs : s.size < 4294967281) (hn : countB s ⟨#[45]⟩ + 1 = n) (w : World) (hm : w.cell? ⟨0, 0, none⟩ = some (.int .i64 m)) :
    Calls Tryz.prog 61 #[.string s, .string ⟨#[45]⟩] w fun e w' => e = .returned (.slice (some ⟨w.heap.size, 0, none⟩) n n) ∧ Below w.heap.size w w' := by
  refine (Tryz.strings_Split s ⟨#[45]⟩ m w hs hm (by decide)).mono ?_
  rintro e w' ⟨rfl, rfl⟩
  rw [hn]
  exact ⟨rfl, by (repeat' (first | (with_reducible exact Below.refl _ _) | (with_reducible assumption) | (with_reducible refine balloc ?_ _) | (with_reducible refine Below.drew ?_) | (with_reducible refine bset ?_ ?_ _) | (with_reducible refine bstep ?_ (by with_reducible assumption)) | (with_reducible refine bturn ?_ (by with_reducible assumption) ?_) | go_size))⟩

set_option maxHeartbeats 1000000 in
theorem parse_few (s : ByteArray) (m : Int) (n : Nat) (hs : s.size < 4294967281) (hn : countB s ⟨#[45]⟩ + 1 = n) (hn3 : ¬ n = 3) (w : World) (hm : w.cell? ⟨0, 0, none⟩ = some (.int .i64 m)) :
    Calls Tryz.prog 34 #[.string s] w fun e w' => e = .returned (.tuple #[.int .i64 0, .int .i64 5]) ∧ Below w.heap.size w w' := by
  have HS := Lib.hid (split_any s m n hs hn)
  have hn3' : ((n : Int) == 3) = false := by simp; omega
  clear hs hn
  go_enter Tryz.func34, Tryz.ntmps34
  go_wp2_with fail
  refine (HS.out _ hm).mono ?_
  rintro e w1 ⟨rfl, hb⟩
  clear hm
  go_wp2
  go_returns
  exact ⟨rfl, by (repeat' (first | (with_reducible exact Below.refl _ _) | (with_reducible assumption) | (with_reducible refine balloc ?_ _) | (with_reducible refine Below.drew ?_) | (with_reducible refine bset ?_ ?_ _) | (with_reducible refine bstep ?_ (by with_reducible assumption)) | (with_reducible refine bturn ?_ (by with_reducible assumption) ?_) | go_size))⟩

/-- Both sides read a text alike. -/
theorem parses (s : ByteArray) (m : Int) (hs : s.size < 4294967281) : ∃ n e : Int, (∀ w : World, w.cell? ⟨0, 0, none⟩ = some (.int .i64 m) → Calls Tryz.prog 34 #[.string s] w fun x w' => x = .returned (.tuple #[.int .i64 n, .int .i64 e]) ∧ Below w.heap.size w w') ∧ (∀ w, Calls Tryz.prog 41 #[.string s] w fun x w' => x = .returned (.tuple #[.int .i64 n, .int .i64 e]) ∧ Below w.heap.size w w') := by
  by_cases hw : wf s
  · obtain ⟨a, b, c, h1, h2, h3, h4, h5, h6⟩ := wf_split hw
    refine ⟨_, _, fun w hm => parse_parts s a b c m hs h3 h4 h5 h1 h2 w hm, fun w => ?_⟩
    rw [h6]
    exact (rparse_ten s hw.1 w).mono fun x w' ⟨q1, _, q3⟩ => ⟨q1 hw, q3⟩
  · have hr : ∀ w, Calls Tryz.prog 41 #[.string s] w fun x w' => x = .returned (.tuple #[.int .i64 0, .int .i64 5]) ∧ Below w.heap.size w w' := fun w => by
      by_cases h10 : s.size = 10
      · exact (rparse_ten s h10 w).mono fun x w' ⟨_, q2, q3⟩ => ⟨q2 hw, q3⟩
      · exact rparse_size s (by omega) w
    refine ⟨0, 5, fun w hm => ?_, hr⟩
    by_cases h2 : countB s ⟨#[45]⟩ = 2
    · obtain ⟨a, b, c, hp, l1, l2, l3⟩ := splitB_three h2
      have hbad : parseR a b c = ⟨0, 5⟩ := by
        unfold parseR
        rw [if_neg]
        intro hg
        simp only [Bool.and_eq_true] at hg
        exact hw (split_wf hp hg.1.1 hg.1.2 hg.2)
      have := parse_parts s a b c m hs (by omega) (by omega) (by omega) h2 hp w hm
      rw [hbad] at this
      exact this
    · exact parse_few s m _ hs rfl (by omega) w hm

/-- Both sides write a day alike. -/
theorem texts (n : Int) : ∃ (s : ByteArray) (e : Int), (∀ w, Lib.TabIs Tryz.prog w "internal/strconv.uint64pow10" .u64 Lib.pow10Tab → Calls Tryz.prog 47 #[.int .i64 n] w fun x w' => x = .returned (.tuple #[.string s, .int .i64 e]) ∧ Below w.heap.size w w') ∧ (∀ w, Calls Tryz.prog 51 #[.int .i64 n] w fun x w' => x = .returned (.tuple #[.string s, .int .i64 e]) ∧ Below w.heap.size w w') := by
  by_cases h : n < 0 ∨ 3652058 < n
  · refine ⟨_, 3, fun w _ => (text_bad n h w).mono ?_, fun w => rtext_bad n h w⟩
    rintro x w' ⟨rfl, rfl⟩
    exact ⟨rfl, Below.refl _ _⟩
  · obtain ⟨y, m, a, b, c, d, e, f, g⟩ := date_of n (by omega) (by omega)
    exact ⟨_, 0, fun w ht => text_ok n y m (by omega) (by omega) a b c d e f g w ht, fun w => rtext_ok n y m (by omega) (by omega) a b c d e f g w⟩

end Go.Proofs.YtambpkkllgppdaaGreatDoor.Days
