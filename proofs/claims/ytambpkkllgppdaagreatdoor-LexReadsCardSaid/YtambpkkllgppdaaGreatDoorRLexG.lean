/- The reference reads numbers and days as the program does; the walk of LexReads. -/
import Derived.Test.YtambpkkllgppdaaGreatDoorRLexF
namespace Go.Proofs.YtambpkkllgppdaaGreatDoor
open Go.RowKit

theorem rp150 : RP (bs s150) (bs s150) (bs [49]) (bs [53, 48]) (bs [53]) false true 15 ⟨15, 1, 0⟩ := by
  have hall : ∀ j, j < (bs s150).size → okJ (bs s150) (bs [49]).size true j := by
    intro j hj
    have hj4 : j < 4 := hj
    match j, hj4 with
    | 0, _ => exact .inr (by decide)
    | 1, _ => exact .inl ⟨rfl, rfl⟩
    | 2, _ => exact .inr (by decide)
    | 3, _ => exact .inr (by decide)
  exact {
    hs := by decide
    m1 := fun h => by cases h
    m0 := fun _ => ⟨rfl, .inr (by decide)⟩
    w1 := by decide
    w2 := fun _ => ⟨by decide, by decide, by decide +kernel, by decide +kernel⟩
    w3 := fun h => by cases h
    w4 := fun j hj => by
      obtain rfl : j = 0 := by have : j < 1 := hj; omega
      decide
    p1 := by decide
    p2 := by decide +kernel
    r5 := fun h => absurd hall h
    r6 := fun _ h => absurd h (by decide)
    r7 := fun h => absurd h (by decide)
    r8 := fun h => absurd h (by decide)
    r9 := fun _ _ _ _ h => absurd h (by decide)
    ok := fun _ _ _ _ _ _ => ⟨by kernel_rfl, by decide, by decide +kernel, fun i hi => by
      have hi2 : i < 2 := hi
      match i, hi2 with
      | 0, _ => exact ⟨by decide +kernel, by decide +kernel⟩
      | 1, _ => exact ⟨by decide +kernel, by decide +kernel⟩⟩ }
theorem rp15 : RP (bs s15) (bs s15) (bs [49]) (bs [53]) (bs [53]) false true 15 ⟨15, 1, 0⟩ := by
  have hall : ∀ j, j < (bs s15).size → okJ (bs s15) (bs [49]).size true j := by
    intro j hj
    have hj4 : j < 3 := hj
    match j, hj4 with
    | 0, _ => exact .inr (by decide)
    | 1, _ => exact .inl ⟨rfl, rfl⟩
    | 2, _ => exact .inr (by decide)
  exact {
    hs := by decide
    m1 := fun h => by cases h
    m0 := fun _ => ⟨rfl, .inr (by decide)⟩
    w1 := by decide
    w2 := fun _ => ⟨by decide, by decide, by decide +kernel, by decide +kernel⟩
    w3 := fun h => by cases h
    w4 := fun j hj => by
      obtain rfl : j = 0 := by have : j < 1 := hj; omega
      decide
    p1 := by decide
    p2 := by decide +kernel
    r5 := fun h => absurd hall h
    r6 := fun _ h => absurd h (by decide)
    r7 := fun h => absurd h (by decide)
    r8 := fun h => absurd h (by decide)
    r9 := fun _ _ _ _ h => absurd h (by decide)
    ok := fun _ _ _ _ _ _ => ⟨by kernel_rfl, by decide, by decide +kernel, fun i hi => by
      have hi2 : i < 2 := hi
      match i, hi2 with
      | 0, _ => exact ⟨by decide +kernel, by decide +kernel⟩
      | 1, _ => exact ⟨by decide +kernel, by decide +kernel⟩⟩ }
theorem wfDay : Days.wf (bs sDay) := by
  refine ⟨by decide, fun j hj => ?_⟩
  match j, hj with
  | 0, _ => decide +kernel
  | 1, _ => decide +kernel
  | 2, _ => decide +kernel
  | 3, _ => decide +kernel
  | 4, _ => decide +kernel
  | 5, _ => decide +kernel
  | 6, _ => decide +kernel
  | 7, _ => decide +kernel
  | 8, _ => decide +kernel
  | 9, _ => decide +kernel
theorem rx_ok (m : Int) : RxOK (lxX m) := by
  refine ⟨?_, ?_, fun l => rfl⟩
  · intro s l hl hlen w
    obtain rfl := bs_of hl
    show Calls Tryz.prog 38 #[.string (bs l)] w fun e w' => e = .returned (.tuple #[.agg #[.int .i64 (lxP m l).n, .int .i64 (lxP m l).s], .int .i64 (lxP m l).e]) ∧ Below w.heap.size w w'
    unfold lxP
    by_cases h1 : l = s150
    · rw [if_pos h1, h1]
      exact rparse_any rp150 w
    · have h2 : (bs l).size < 4294967281 := by rw [bs_size]; omega
      rw [if_neg h1]
      by_cases h3 : l = s15
      · rw [if_pos h3, h3]
        exact rparse_any rp15 w
      · rw [if_neg h3, dif_pos h2]
        exact (Classical.choose_spec (reads (bs l) m h2)).2 w
  · intro s l hl hlen w
    obtain rfl := bs_of hl
    show Calls Tryz.prog 41 #[.string (bs l)] w fun e w' => e = .returned (.tuple #[.int .i64 (lxD m l).1, .int .i64 (lxD m l).2]) ∧ Below w.heap.size w w'
    unfold lxD
    by_cases h1 : l = sDay
    · rw [if_pos h1, h1]
      refine (Days.rparse_ten (bs sDay) (by decide) w).mono ?_
      rintro e w' ⟨h1, _, h3⟩
      refine ⟨?_, h3⟩
      rw [h1 wfDay, show (Days.dayR (Days.fold10 (bs sDay) 0 4) (Days.fold10 (bs sDay) 5 2) (Days.fold10 (bs sDay) 8 2)).n = 730119 by decide +kernel, show (Days.dayR (Days.fold10 (bs sDay) 0 4) (Days.fold10 (bs sDay) 5 2) (Days.fold10 (bs sDay) 8 2)).e = 0 by decide +kernel]
    · have h2 : (bs l).size < 4294967281 := by rw [bs_size]; omega
      rw [if_neg h1, dif_pos h2]
      exact (Classical.choose_spec (Classical.choose_spec (Days.parses (bs l) m h2))).2 w

theorem rtokens_far (s : ByteArray) (h : (65536 : Int) < (s.size : Int)) (w : World) : Calls Tryz.prog 9 #[.string s] w fun e w' => e = .returned (.tuple #[.slice none 0 0, .int .i64 0, .int .i64 10]) ∧ Below w.heap.size w w' := by
  go_enter Tryz.func9, Tryz.ntmps9
  go_wp2
  go_returns
  exact ⟨rfl, by (repeat' (first | (with_reducible exact Below.refl _ _) | (with_reducible assumption) | (with_reducible refine balloc ?_ _) | (with_reducible refine Below.drew ?_) | (with_reducible refine bset ?_ ?_ _) | (with_reducible refine bstep ?_ (by with_reducible assumption)) | (with_reducible refine bturn ?_ (by with_reducible assumption) ?_) | go_size))⟩
theorem rtokens_all (x : Lx) (hx : RxOK x) (s : ByteArray) (l : Bs) (hl : s.data.toList = l) (w : World) :
    Calls Tryz.prog 9 #[.string s] w fun e w' => (∃ A c, e = .returned (.tuple #[.slice A (toksS x l).l.length c, .int .i64 ((toksS x l).n : Int), .int .i64 (toksS x l).e]) ∧ TM w' A (toksS x l).l ∧ (toksS x l).l.length ≤ c ∧ c ≤ maxLen) ∧ Below w.heap.size w w' := by
  by_cases h : s.size ≤ 65536
  · exact rtokens_any x hx s l hl h w
  · have hll : l.length = s.size := by rw [← hl, size_list]
    have hT : toksS x l = ⟨[], 0, 10⟩ := by unfold toksS; rw [if_pos (by omega)]
    rw [hT]
    refine (rtokens_far s (by omega) w).mono ?_
    rintro _ w' ⟨rfl, hb⟩
    exact ⟨⟨none, 0, rfl, TM.nil _ _, Nat.le_refl _, by unfold maxLen; omega⟩, hb⟩

set_option maxHeartbeats 4000000 in
set_option maxRecDepth 100000 in
theorem reads_walk (s : ByteArray) (L : List Tk) (n : Nat) (an : Nat) (ae : Int) (wb : Bool) (w : World)
    (HA : Hid (∀ W, Below w.heap.size w W → Calls Tryz.prog 8 #[.string s] W fun e w' => (∃ A c, e = .returned (.tuple #[.slice A n c, .int .i64 (an : Int), .int .i64 ae]) ∧ TM w' A L ∧ n ≤ c ∧ c ≤ maxLen) ∧ Below W.heap.size W w'))
    (HB : Hid (∀ W, Calls Tryz.prog 9 #[.string s] W fun e w' => (∃ A c, e = .returned (.tuple #[.slice A n c, .int .i64 (an : Int), .int .i64 ae]) ∧ TM w' A L ∧ n ≤ c ∧ c ≤ maxLen) ∧ Below W.heap.size W w'))
    (HW : Hid (∀ W, Below w.heap.size w W → Calls Tryz.prog 10 #[] W fun e w' => e = .returned (.bool true) ∧ Below W.heap.size W w'))
    (HS : Hid (∀ A B c d W, TM W A L → TM W B L → Calls Tryz.prog 11 #[.slice A n c, .slice B n d, .bool true] W fun e w' => e = .returned (.bool true) ∧ Below W.heap.size W w'))
    (HV : Hid (∀ W, Calls Tryz.prog 12 #[.string s] W fun e w' => e = .returned (.bool wb) ∧ Below W.heap.size W w'))
    (HR : Hid (∀ W, Calls Tryz.prog 13 #[.string s] W fun e w' => e = .returned (.bool wb) ∧ W = w')) :
    Calls Tryz.prog 3 #[.string s] w fun e w' => e = .returned (.bool true) ∧ Below w.heap.size w w' := by
  go_enter Tryz.func3, Tryz.ntmps3
  go_wp2_with fail
  refine (HA.out _ (by (repeat' (first | (with_reducible exact Below.refl _ _) | (with_reducible assumption) | (with_reducible refine balloc ?_ _) | (with_reducible refine Below.drew ?_) | (with_reducible refine bset ?_ ?_ _) | (with_reducible refine bstep ?_ (by with_reducible assumption)) | (with_reducible refine bturn ?_ (by with_reducible assumption) ?_) | go_size)))).mono ?_
  rintro _ w1 ⟨⟨A, c, rfl, hA, _⟩, hb1⟩
  have HTA := Lib.hid hA
  clear hA
  go_wp2_with fail
  refine (HB.out _).mono ?_
  rintro _ w2 ⟨⟨B, d, rfl, hB, _⟩, hb2⟩
  have HTB := Lib.hid hB
  clear hB
  go_wp2_with fail
  refine (HW.out _ (by (repeat' (first | (with_reducible exact Below.refl _ _) | (with_reducible assumption) | (with_reducible refine balloc ?_ _) | (with_reducible refine Below.drew ?_) | (with_reducible refine bset ?_ ?_ _) | (with_reducible refine bstep ?_ (by with_reducible assumption)) | (with_reducible refine bturn ?_ (by with_reducible assumption) ?_) | go_size)))).mono ?_
  rintro _ w3 ⟨rfl, hb3⟩
  go_wp2_with fail
  refine (HS.out A B c d _ ((HTA.out.step hb2).step hb3) (HTB.out.step hb3)).mono ?_
  rintro _ w4 ⟨rfl, hb4⟩
  go_wp2_with fail
  refine (HV.out _).mono ?_
  rintro _ w5 ⟨rfl, hb5⟩
  go_wp2_with fail
  refine (HR.out _).mono ?_
  rintro _ _ ⟨rfl, rfl⟩
  go_wp2_with fail
  go_returns
  exact ⟨by first | rfl | simp, by (repeat' (first | (with_reducible exact Below.refl _ _) | (with_reducible assumption) | (with_reducible refine balloc ?_ _) | (with_reducible refine Below.drew ?_) | (with_reducible refine bset ?_ ?_ _) | (with_reducible refine bstep ?_ (by with_reducible assumption)) | (with_reducible refine bturn ?_ (by with_reducible assumption) ?_) | go_size))⟩
theorem readslaw_any (m : Int) (s : ByteArray) (w : World) (hw : OKW m w) :
    Calls Tryz.prog 3 #[.string s] w fun e w' => e = .returned (.bool true) ∧ Below w.heap.size w w' :=
  reads_walk s (toksS (lxX m) s.data.toList).l _ _ _ (wordB s.data.toList) w
    (Lib.hid fun W h => tokens_all (lxX m) m (lx_ok m) s _ rfl W (hw.step h))
    (Lib.hid fun W => rtokens_all (lxX m) (rx_ok m) s _ rfl W)
    (Lib.hid fun W h => awake_lex m W (hw.step h))
    (Lib.hid fun A B c d W hA hB => same_ok true _ _ _ rfl rfl (by have := (toksS_len (lxX m) s.data.toList).1; omega) A B c d W hA hB (fun i t u ht hu => by
      rw [ht] at hu
      cases hu
      exact ⟨rfl, rfl, rfl, rfl, rfl, fun _ => rfl⟩))
    (Lib.hid fun W => word_any s _ rfl _ rfl W)
    (Lib.hid fun W => rword_any s _ rfl _ rfl W)
end Go.Proofs.YtambpkkllgppdaaGreatDoor
