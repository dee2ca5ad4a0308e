/- Two contracts of one call at one world give the same answer. lex.one at any token, at this program. Tokens that are written are read as they were, plainly. What reading a number or a day says of it: it is sound, and its own text is read as it. What is read can be written, and is no longer than three times what was read. The tokens of what is written for tests. Tests that are written are read as they were, plainly. An expression that is written is read as it was: the tokens, plainly. What is written for an expression has its tokens: plainly. An expression between brackets is read as it is without: step by step, plainly. An expression between brackets is read as it is without, plainly: all together. Brackets around a whole expression change nothing; two with an or between are that: plainly. How long what is written for a read expression is at most: plainly. Tests that are written are read as they were: the plain law. What the tokens of a text are: sound, and where they stand. What is read as tests is sound, and where it is wrong lies in the text: plainly. What is read as an expression, if it may be one, is written and read back; and where a text is wrong lies in it: plainly. Whether something is an expression, its names, and how great it is: plainly. -/
import Derived.Calls
import Derived.Test.YtkkeplmaphcblaaGreatDoorK1
import Derived.Test.YtkkeplmaphcblaaGreatDoorK9
import Derived.Test.YtkkeplmaphcblaaGreatDoorK21
import Derived.Test.YtkkeplmaphcblaaGreatDoorK19
import Derived.Test.YtkkeplmaphcblaaGreatDoorK13
import Derived.Test.YtkkeplmaphcblaaGreatDoorK18
import Derived.Test.YtkkeplmaphcblaaGreatDoorK3
namespace Go.Proofs.YtkkeplmaphcblaaGreatDoor

theorem calls_det {P : Program} {f : FuncId} {args : Array Value} {w : World} {v1 v2 : Value} {Q1 Q2 : World → Prop} (hi : P.inits.idxOf? f = none)
    (h1 : Calls P f args w fun e w' => e = .returned v1 ∧ Q1 w') (h2 : Calls P f args w fun e w' => e = .returned v2 ∧ Q2 w') : v1 = v2 := by
  obtain ⟨e1, w1, fr1, ⟨rfl, _⟩, s1, g1, l1⟩ := h1 []
  obtain ⟨e2, w2, fr2, ⟨rfl, _⟩, s2, g2, l2⟩ := h2 []
  have d1 := step_leave_done l1 (by rw [g1]; exact hi)
  have d2 := step_leave_done l2 (by rw [g2]; exact hi)
  obtain ⟨n1, r1⟩ := s1
  obtain ⟨n2, r2⟩ := s2
  have key : ∀ (a b : Nat) (fr fr' : Frame) (u u' : World) (x x' : Value), runN P a (lone (Frame.enter P f args .normal) [] w) = .next (lone fr [] u) → runN P b (lone (Frame.enter P f args .normal) [] w) = .next (lone fr' [] u') → step P (lone fr [] u) = .ended (.done x) u → step P (lone fr' [] u') = .ended (.done x') u' → a ≤ b → x = x' := by
    intro a b fr fr' u u' x x' ra rb da db hab
    obtain ⟨k, rfl⟩ : ∃ k, b = a + k := ⟨b - a, by omega⟩
    rw [runN_add, ra] at rb
    cases k with
    | zero =>
      have h3 : lone fr [] u = lone fr' [] u' := by simpa [runN] using rb
      rw [h3] at da
      rw [da] at db
      injection db with h4 h5
      injection h4
    | succ k =>
      simp [runN, da] at rb
  rcases Nat.le_total n1 n2 with h | h
  · exact key n1 n2 fr1 fr2 w1 w2 v1 v2 r1 r2 d1 d2 h
  · exact (key n2 n1 fr2 fr1 w2 w1 v2 v1 r2 r1 d2 d1 h).symm
end Go.Proofs.YtkkeplmaphcblaaGreatDoor

namespace Go.Proofs.YtkkeplmaphcblaaGreatDoor
open Go.RowKit

/-- A number as a text. -/
def dT (n s : Int) : Bs × Int := if soundS n s = true then (textS (decide (n < 0)) (mag n).toNat s.toNat, 0) else ([], 2)
theorem mag_nat (n : Int) : mag n = ((mag n).toNat : Int) := by unfold mag; split <;> omega
theorem dtext (n s : Int) (hn : I64 n) (hs : I64 s) (w : World) (htab : Lib.TabIs Tryz.prog w "internal/strconv.uint64pow10" .u64 Lib.pow10Tab) :
    Calls Tryz.prog 139 #[.agg #[.int .i64 n, .int .i64 s]] w fun e w' => e = .returned (.tuple #[.string (bs (dT n s).1), .int .i64 (dT n s).2]) ∧ Below w.heap.size w w' := by
  unfold dT
  by_cases h : soundS n s = true
  · rw [if_pos h]
    obtain ⟨b1, b2, _⟩ := sound_bd h
    exact text_any n s (mag n).toNat s.toNat hn (by omega) h (mag_nat n) _ rfl w htab
  · rw [if_neg h]
    exact text_form n s hn hs h w
theorem textU_len {N sc : Nat} (hN : N < 1000000000000) (hs : sc ≤ 6) : (textU N sc).length ≤ 20 := by
  have hW : N / 10 ^ sc < 10 ^ 12 := Nat.lt_of_le_of_lt (Nat.div_le_self _ _) (by omega)
  have hWd := nDigits_le (by decide) hW
  unfold textU
  split
  · rename_i h0; subst h0; simp only [Nat.pow_zero, Nat.div_one] at hWd; rw [Lib.decDigits_length]; omega
  · rw [List.length_append, Lib.decDigits_length, List.length_cons, pd_length]; omega
theorem dT_len (n s : Int) : (dT n s).1.length ≤ 21 := by
  unfold dT
  split
  · rename_i h
    obtain ⟨b1, b2, b3, b4, _⟩ := sound_bd h
    have hm := mag_bd b3 b4
    have hn := mag_nat n
    have h1 := textU_len (N := (mag n).toNat) (sc := s.toNat) (by omega) (by omega)
    show (textS _ _ _).length ≤ 21
    unfold textS
    split
    · rw [List.length_cons]; omega
    · omega
  · simp
end Go.Proofs.YtkkeplmaphcblaaGreatDoor
namespace Go.Proofs.YtkkeplmaphcblaaGreatDoor.Days
open Go.RowKit
theorem texts_len (n : Int) : ∃ (l : Bs) (e : Int), l.length ≤ 10 ∧ (∀ w, Lib.TabIs Tryz.prog w "internal/strconv.uint64pow10" .u64 Lib.pow10Tab → Calls Tryz.prog 142 #[.int .i64 n] w fun x w' => x = .returned (.tuple #[.string (bs l), .int .i64 e]) ∧ Below w.heap.size w w') ∧ (∀ _ : World, True) := by
  by_cases h : n < 0 ∨ 3652058 < n
  · refine ⟨[], 3, by simp, fun w _ => (text_bad n h w).mono ?_, fun _ => trivial⟩
    rintro x w' ⟨rfl, rfl⟩
    exact ⟨rfl, Below.refl _ _⟩
  · obtain ⟨y, m, a, b, c, d, e, f, g⟩ := date_of n (by omega) (by omega)
    exact ⟨_, 0, Nat.le_of_eq (textL_length _ _ _), fun w ht => text_ok n y m (by omega) (by omega) a b c d e f g w ht, fun _ => trivial⟩
end Go.Proofs.YtkkeplmaphcblaaGreatDoor.Days
namespace Go.Proofs.YtkkeplmaphcblaaGreatDoor
open Go.RowKit

/-- A day as a text. -/
noncomputable def yT (n : Int) : Bs × Int := (Classical.choose (Days.texts_len n), Classical.choose (Classical.choose_spec (Days.texts_len n)))
theorem yT_spec (n : Int) : (yT n).1.length ≤ 10 ∧ (∀ w, Lib.TabIs Tryz.prog w "internal/strconv.uint64pow10" .u64 Lib.pow10Tab → Calls Tryz.prog 142 #[.int .i64 n] w fun x w' => x = .returned (.tuple #[.string (bs (yT n).1), .int .i64 (yT n).2]) ∧ Below w.heap.size w w') ∧ (∀ _ : World, True) :=
  Classical.choose_spec (Classical.choose_spec (Days.texts_len n))

theorem bs_toList (l : Bs) : (bs l).toList = l := by rw [Lib.toList_data]; rfl
theorem bs_app (a b : Bs) : bs a ++ bs b = bs (a ++ b) := by
  apply ByteArray.ext
  apply Array.toList_inj.1
  rw [ByteArray.data_append, Array.toList_append]
  rfl

end Go.Proofs.YtkkeplmaphcblaaGreatDoor

namespace Go.Proofs.YtkkeplmaphcblaaGreatDoor

end Go.Proofs.YtkkeplmaphcblaaGreatDoor

namespace Go.Proofs.YtkkeplmaphcblaaGreatDoor
open Go.RowKit
open Go.Lib hiding intOf

theorem short_end : ∀ (k : Nat) (n : Int), (short k n).2 = 0 ∨ ¬ (short k n).1 % 10 = 0
  | 0, n => .inl rfl
  | k + 1, n => by
    rw [short]
    split
    · exact short_end k _
    · rename_i h; exact .inr h
/-- A number that was read is sound, and its text is no longer. -/
def NumOk (R : Res) (len : Nat) : Prop := 0 ≤ R.n ∧ soundS R.n R.s = true ∧ (textU R.n.toNat R.s.toNat).length ≤ len
theorem num_dec {pt wh u len : Nat} (hu : u < 10 ^ (wh + pt)) (hw : 1 ≤ wh) (h6 : pt ≤ 6) (hlen : wh + pt ≤ len) (hdot : 0 < pt → wh + 1 + pt ≤ len) (he : (decS pt (u : Int) false).e = 0) : NumOk (decS pt (u : Int) false) len := by
  obtain ⟨b1, b2, b3, b4⟩ := short_bd pt (u : Int) (by omega)
  have hend := short_end pt (u : Int)
  unfold decS at he ⊢
  split at he
  · cases he
  · rename_i hb
    rw [if_neg hb]
    have hbig := big_def
    have hN : ((short pt (u : Int)).1.toNat : Int) = (short pt (u : Int)).1 := Int.toNat_of_nonneg b1
    have hS : ((short pt (u : Int)).2.toNat : Int) = (short pt (u : Int)).2 := Int.toNat_of_nonneg b3
    refine ⟨by simpa using b1, ?_, ?_⟩
    · rw [sound_iff]
      unfold soundB
      simp only [Bool.false_eq_true, if_false]
      exact decide_eq_true ⟨b3, by omega, by omega, by omega, hend⟩
    · simp only [Bool.false_eq_true, if_false]
      have hNu : (short pt (u : Int)).1.toNat < 10 ^ (wh + pt) := by omega
      have hd := nDigits_le (by omega) hNu
      unfold textU
      split
      · rw [decDigits_length]; omega
      · rename_i h0
        have h2 := nDigits_div (N := (short pt (u : Int)).1.toNat) (sc := (short pt (u : Int)).2.toNat)
        rw [List.length_append, decDigits_length, List.length_cons, pd_length]
        have := hdot (by omega)
        omega
theorem reads_num (s : ByteArray) (m : Int) (hs : s.size < 4294967281) (h45 : byteAt s 0 ≠ 45) : ∃ R : Res, (∀ w : World, w.cell? ⟨1, 0, none⟩ = some (.int .i64 m) → Calls Tryz.prog 201 #[.string s] w fun x w' => x = .returned (.tuple #[.agg #[.int .i64 R.n, .int .i64 R.s], .int .i64 R.e]) ∧ Below w.heap.size w w') ∧ (R.e = 0 → NumOk R s.size) := by
  obtain ⟨r, wh, pa, pt, minus, dot, P⟩ := parts_ex s hs
  have C := P.cut
  obtain rfl : minus = false := by
    cases minus with
    | false => rfl
    | true => exact absurd (P.m1 rfl).2.1 h45
  have hsr := (P.m0 rfl).1
  by_cases good : (allDig wh.data.toList = true ∧ (dot = true → allDig pa.data.toList = true)) ∧ ¬ (dot = true ∧ pa.size = 0) ∧ wh.size ≠ 0 ∧ ¬ lead wh
  · obtain ⟨g1, g2, g3, g4⟩ := good
    have dw : digB wh = true := digB_iff.2 ⟨g3, g1.1⟩
    have dp : dot = false ∨ dot = true ∧ digB pa = true := by
      cases hd : dot with
      | false => exact .inl rfl
      | true => exact .inr ⟨rfl, digB_iff.2 ⟨fun h0 => g2 ⟨hd, h0⟩, g1.2 hd⟩⟩
    by_cases big : 6 < pt.size ∨ 12 < wh.size
    · refine ⟨⟨0, 0, 3⟩, fun w hm => ?_, fun h => by cases h⟩
      rcases lead_ways g4 with l1 | ⟨l1, l2⟩
      · have h6 : 6 < pt.size := by omega
        exact parse_Do C dw dp l1 h6 m w hm
      · by_cases h6 : 6 < pt.size
        · exact parse_Dt C dw dp l1 l2 h6 m w hm
        · exact parse_Et C dw dp l1 l2 (by omega) (by omega) m w hm
    · obtain ⟨t, ht⟩ := trim_sub pa.data.toList
      rw [C.h4] at ht
      have hpt : allDig pt.data.toList = true := by
        rcases dp with hd | ⟨_, hd⟩
        · have hpa := (P.w3 hd).2
          have h0 : pt.data.toList = [] := by rw [← C.h4, hpa]; rfl
          rw [h0]; rfl
        · have := (digB_iff.1 hd).2
          rw [ht] at this
          unfold allDig at this ⊢
          rw [List.all_append, Bool.and_eq_true] at this
          exact this.1
      have hall : allDig (wh ++ pt).data.toList = true := by
        rw [ByteArray.data_append, Array.toList_append]
        unfold allDig at g1 hpt ⊢
        rw [List.all_append, Bool.and_eq_true]
        exact ⟨g1.1, hpt⟩
      have hsz : (wh ++ pt).data.toList.length = (wh ++ pt).size := by simp
      obtain ⟨u, u1, u2, u3⟩ := digits_of (wh ++ pt).size (wh ++ pt).data.toList hsz hall
      have hsize : (wh ++ pt).size = wh.size + pt.size := ByteArray.size_append
      have hle : 10 ^ (wh ++ pt).size ≤ 10 ^ 18 := Nat.pow_le_pow_right (by decide) (by omega)
      have hu : Lib.parseUintB 64 (wh ++ pt).data.toList = .ok u := by
        unfold Lib.parseUintB
        rw [if_neg (by intro e; rw [e] at hsz; simp at hsz; omega)]
        exact uintM_of _ 0 u hall u1 (by omega)
      have hpl : pt.size ≤ pa.size := by
        have := congrArg List.length ht
        rw [List.length_append] at this
        have a1 : pa.data.toList.length = pa.size := by simp
        have a2 : pt.data.toList.length = pt.size := by simp
        omega
      have hwr := P.w1
      have hlen : dot = true → wh.size + 1 + pa.size = s.size := fun hd => by
        obtain ⟨q1, _, _, q4⟩ := P.w2 hd
        rw [← q4, ByteArray.size_extract, ← hsr]
        rw [← hsr] at q1
        omega
      have hnod : dot = false → pt.size = 0 := fun hd => by
        have hpa := (P.w3 hd).2
        rw [hpa] at hpl
        exact Nat.le_zero.1 hpl
      refine ⟨decS pt.size (u : Int) false, fun w hm => ?_, fun he => ?_⟩
      · rcases lead_ways g4 with l1 | ⟨l1, l2⟩
        · exact parse_Fo C dw dp l1 (by omega) (by omega) u hu (by omega) m w hm
        · exact parse_Ft C dw dp l1 l2 (by omega) (by omega) u hu (by omega) m w hm
      · rw [hsize] at u2
        rw [← hsr] at hwr
        cases hd : dot with
        | false =>
          have h0 := hnod hd
          exact num_dec u2 (by omega) (by omega) (by omega) (fun h => by omega) he
        | true =>
          have h0 := hlen hd
          exact num_dec u2 (by omega) (by omega) (by omega) (fun h => by omega) he
  · refine ⟨⟨0, 0, 5⟩, fun w hm => ?_, fun h => by cases h⟩
    cases dw : digB wh with
    | false => exact parse_A C dw m w hm
    | true =>
      by_cases hd : dot = true ∧ digB pa = false
      · exact parse_B C dw hd.1 hd.2 m w hm
      · have dp : dot = false ∨ dot = true ∧ digB pa = true := by
          cases hdt : dot with
          | false => exact .inl rfl
          | true =>
            cases hpa : digB pa with
            | true => exact .inr ⟨rfl, rfl⟩
            | false => exact absurd ⟨hdt, hpa⟩ hd
        by_cases hl : lead wh
        · refine parse_C C dw dp hl.1 ?_ m w hm
          have := hl.2
          rw [byteAt_eq wh 0 (by have := hl.1; omega)] at this
          rw [this]; rfl
        · exfalso
          have w0 := digB_iff.1 dw
          apply good
          refine ⟨⟨w0.2, fun hdt => ?_⟩, fun h => ?_, w0.1, hl⟩
          · rcases dp with h | ⟨_, h⟩
            · rw [hdt] at h; cases h
            · exact (digB_iff.1 h).2
          · rcases dp with h2 | ⟨_, h2⟩
            · rw [h.1] at h2; cases h2
            · exact (digB_iff.1 h2).1 h.2
end Go.Proofs.YtkkeplmaphcblaaGreatDoor
namespace Go.Proofs.YtkkeplmaphcblaaGreatDoor.Days
open Go.RowKit
open Go.Lib hiding intOf
theorem day_range {y m d : Int} (h : (dayR y m d).e = 0) : 0 ≤ (dayR y m d).n ∧ (dayR y m d).n ≤ 3652058 := by
  unfold dayR at h ⊢
  split at h
  · rename_i ok
    rw [if_pos ok]
    obtain ⟨a, b, c, e, f, g⟩ := ok
    obtain ⟨k, hk⟩ : ∃ k : Nat, m = (k : Int) + 1 := ⟨(m - 1).toNat, by omega⟩
    subst hk
    have h1 := cum_bd y k
    have h2 := cum_succ y k
    have h3 := cum_mono y (a := k + 1) (b := 12) (by omega)
    have h4 := cum_12 y
    have h5 := first_succ y
    have h6 := first_mono (a := y + 1) (b := 10000) (by omega)
    have h7 := first_10000
    have h8 := first_ge a
    have h9 := len_bd y ((k : Int) + 1)
    show 0 ≤ dayN _ _ _ ∧ dayN _ _ _ ≤ _
    unfold dayN
    rw [show ((k : Int) + 1 - 1).toNat = k by omega]
    omega
  · cases h
theorem days_form (s : ByteArray) (m : Int) (hs : s.size < 4294967281) : ∃ n e : Int, (∀ w : World, w.cell? ⟨1, 0, none⟩ = some (.int .i64 m) → Calls Tryz.prog 165 #[.string s] w fun x w' => x = .returned (.tuple #[.int .i64 n, .int .i64 e]) ∧ Below w.heap.size w w') ∧ (e = 0 → 0 ≤ n ∧ n ≤ 3652058) := by
  by_cases h2 : countB s ⟨#[45]⟩ = 2
  · obtain ⟨a, b, c, hp, l1, l2, l3⟩ := splitB_three h2
    refine ⟨_, _, fun w hm => parse_parts s a b c m hs (by omega) (by omega) (by omega) h2 hp w hm, fun h => ?_⟩
    unfold parseR at h ⊢
    split at h
    · rename_i hg
      rw [if_pos hg]
      exact day_range h
    · cases h
  · exact ⟨0, 5, fun w hm => parse_few s m _ hs rfl (by omega) w hm, fun h => by cases h⟩
theorem pd_bytes {k n : Nat} {x : UInt8} (h : x ∈ pd k n) : x ≠ 34 ∧ x ≠ 92 := by
  have h1 := allDig_pd k n
  unfold allDig at h1
  have h2 := of_decide_eq_true (List.all_eq_true.1 h1 x h)
  constructor
  · rintro rfl; exact absurd h2.1 (by decide)
  · rintro rfl; exact absurd h2.2 (by decide)
/-- A day's text is read as it. -/
theorem text_read (n : Int) (h0 : 0 ≤ n) (h1 : n ≤ 3652058) : ∃ l : Bs, l.length = 10 ∧ (∀ x ∈ l, x ≠ 34 ∧ x ≠ 92) ∧ (∀ w, Lib.TabIs Tryz.prog w "internal/strconv.uint64pow10" .u64 Lib.pow10Tab → Calls Tryz.prog 142 #[.int .i64 n] w fun x w' => x = .returned (.tuple #[.string (bs l), .int .i64 0]) ∧ Below w.heap.size w w') ∧ (∀ (q : Int) (w : World), w.cell? ⟨1, 0, none⟩ = some (.int .i64 q) → Calls Tryz.prog 165 #[.string (bs l)] w fun x w' => x = .returned (.tuple #[.int .i64 n, .int .i64 0]) ∧ Below w.heap.size w w') := by
  obtain ⟨y, m, a, b, c, d, e, f, g⟩ := date_of n h0 h1
  have hl := len_bd y ((m : Int) + 1)
  have hs := cum_succ y m
  have hok : okD y ((m : Int) + 1) (n - firstS y - cumS y m + 1) := ⟨a, b, by omega, by omega, by omega, by omega⟩
  have hn : dayN y ((m : Int) + 1) (n - firstS y - cumS y m + 1) = n := by
    unfold dayN
    rw [show ((m : Int) + 1 - 1).toNat = m by omega]
    omega
  have hr : dayR y ((m : Int) + 1) (n - firstS y - cumS y m + 1) = ⟨n, 0⟩ := by unfold dayR; rw [if_pos hok, hn]
  refine ⟨textL y.toNat (m + 1) (n - firstS y - cumS y m + 1).toNat, textL_length _ _ _, fun x hx => ?_, fun w ht => text_ok n y m h0 h1 a b c d e f g w ht, fun q w hm => ?_⟩
  · unfold textL at hx
    simp only [List.mem_append, List.mem_cons] at hx
    rcases hx with h | h | h | h | h
    · exact pd_bytes h
    · subst h; decide
    · exact pd_bytes h
    · subst h; decide
    · exact pd_bytes h
  · have := parse_text y.toNat (m + 1) (n - firstS y - cumS y m + 1).toNat (by omega) (by omega) (by omega) q _ rfl w hm
    rw [Int.toNat_of_nonneg (by omega), Int.toNat_of_nonneg (by omega), show (((m + 1 : Nat) : Int)) = (m : Int) + 1 by omega, hr] at this
    exact this
end Go.Proofs.YtkkeplmaphcblaaGreatDoor.Days

namespace Go.Proofs.YtkkeplmaphcblaaGreatDoor
open Go.RowKit
open Go.Lib hiding intOf

theorem qS_esc : ∀ (t m : Bs), qS (escB t ++ 34 :: m) = some (t, (escB t).length + 1)
  | [], m => by
    show qS (34 :: m) = _
    rw [qS_cons, if_pos rfl]
    rfl
  | c :: t, m => by
    rw [escB, List.append_assoc, List.length_append]
    by_cases h1 : c = 92
    · subst h1
      show qS (92 :: 92 :: (escB t ++ 34 :: m)) = some (92 :: t, 2 + (escB t).length + 1)
      rw [qS_cons, if_neg (by decide), if_pos rfl]
      simp [qS_esc t m]
      omega
    · by_cases h2 : c = 34
      · subst h2
        show qS (92 :: 34 :: (escB t ++ 34 :: m)) = some (34 :: t, 2 + (escB t).length + 1)
        rw [qS_cons, if_neg (by decide), if_pos rfl]
        simp [qS_esc t m]
        omega
      · rw [escC_same h2 h1]
        show qS (c :: (escB t ++ 34 :: m)) = some (c :: t, 1 + (escB t).length + 1)
        rw [qS_cons, if_neg h2, if_neg h1, qS_esc t m]
        simp
        omega
theorem qS_plain : ∀ (l m : Bs), (∀ x ∈ l, x ≠ 34 ∧ x ≠ 92) → qS (l ++ 34 :: m) = some (l, l.length + 1)
  | [], m, _ => by
    show qS (34 :: m) = _
    rw [qS_cons, if_pos rfl]
    rfl
  | c :: l, m, h => by
    obtain ⟨h1, h2⟩ := h c (List.mem_cons_self ..)
    rw [List.cons_append, qS_cons, if_neg h1, if_neg h2, qS_plain l m fun x hx => h x (List.mem_cons_of_mem _ hx)]
    rfl
theorem qS_more : ∀ (k : Nat) (l : Bs) (p : Bs × Nat), l.length ≤ k → qS l = some p → p.1.length + 1 ≤ p.2
  | _, [], _, _, h => by simp [qS] at h
  | 0, c :: r, _, hk, _ => by simp at hk
  | k + 1, c :: r, p, hk, h => by
    rw [qS_cons] at h
    rw [List.length_cons] at hk
    by_cases h1 : c = 34
    · rw [if_pos h1] at h
      cases h
      simp
    · rw [if_neg h1] at h
      by_cases h2 : c = 92
      · rw [if_pos h2] at h
        cases r with
        | nil => cases h
        | cons d r2 =>
          simp only at h
          rw [List.length_cons] at hk
          by_cases h3 : d = 34 ∨ d = 92
          · rw [if_pos h3] at h
            cases hq : qS r2 with
            | none => rw [hq] at h; cases h
            | some q =>
              rw [hq] at h
              have := qS_more k r2 q (by omega) hq
              cases h
              simp only [List.length_cons]
              omega
          · rw [if_neg h3] at h; cases h
      · rw [if_neg h2] at h
        cases hq : qS r with
        | none => rw [hq] at h; cases h
        | some q =>
          rw [hq] at h
          have := qS_more k r q (by omega) hq
          cases h
          simp only [List.length_cons]
          omega

theorem figs_dig {x : UInt8} (h : 48 ≤ x.toNat ∧ x.toNat ≤ 57) : figs.contains x = true := by
  have h2 : x.toNat = 48 ∨ x.toNat = 49 ∨ x.toNat = 50 ∨ x.toNat = 51 ∨ x.toNat = 52 ∨ x.toNat = 53 ∨ x.toNat = 54 ∨ x.toNat = 55 ∨ x.toNat = 56 ∨ x.toNat = 57 := by omega
  rcases h2 with h | h | h | h | h | h | h | h | h | h
  · obtain rfl : x = 48 := UInt8.toNat_inj.1 h; rfl
  · obtain rfl : x = 49 := UInt8.toNat_inj.1 h; rfl
  · obtain rfl : x = 50 := UInt8.toNat_inj.1 h; rfl
  · obtain rfl : x = 51 := UInt8.toNat_inj.1 h; rfl
  · obtain rfl : x = 52 := UInt8.toNat_inj.1 h; rfl
  · obtain rfl : x = 53 := UInt8.toNat_inj.1 h; rfl
  · obtain rfl : x = 54 := UInt8.toNat_inj.1 h; rfl
  · obtain rfl : x = 55 := UInt8.toNat_inj.1 h; rfl
  · obtain rfl : x = 56 := UInt8.toNat_inj.1 h; rfl
  · obtain rfl : x = 57 := UInt8.toNat_inj.1 h; rfl
theorem figs_pd {k n : Nat} {x : UInt8} (h : x ∈ pd k n) : figs.contains x = true := by
  have h1 := allDig_pd k n
  unfold allDig at h1
  exact figs_dig (of_decide_eq_true (List.all_eq_true.1 h1 x h))
theorem runS_len {S : Bs} : ∀ {l : Bs}, (∀ x ∈ l, S.contains x = true) → runS S l = l.length
  | [], _ => rfl
  | c :: l, h => by
    rw [runS_cons, if_pos (h c (List.mem_cons_self ..)), runS_len fun x hx => h x (List.mem_cons_of_mem _ hx)]
    rfl
theorem numLen_text (N sc : Nat) : numLen (textU N sc) = (textU N sc).length := by
  unfold textU
  split
  · have h : ∀ x ∈ decDigits N, figs.contains x = true := fun x hx => by rw [dec_pd] at hx; exact figs_pd hx
    unfold numLen
    rw [runS_len h, List.drop_length, if_neg (by decide)]
  · rename_i h0
    obtain ⟨k, rfl⟩ : ∃ k, sc = k + 1 := ⟨sc - 1, by omega⟩
    have h : ∀ x ∈ decDigits (N / 10 ^ (k + 1)), figs.contains x = true := fun x hx => by rw [dec_pd] at hx; exact figs_pd hx
    have hp : runS figs (pd (k + 1) N) = (pd (k + 1) N).length := runS_len fun x hx => figs_pd hx
    have hd : dotted (46 :: pd (k + 1) N) = true := by
      rw [pd_cons]
      show figs.contains _ = true
      exact figs_pd (k := k + 1) (n := N) (by rw [pd_cons]; exact List.mem_cons_self ..)
    unfold numLen
    rw [runS_app figs (show figs.contains 46 = false from rfl), runS_len h, List.drop_left' rfl, if_pos hd]
    have hdr : (decDigits (N / 10 ^ (k + 1)) ++ 46 :: pd (k + 1) N).drop ((decDigits (N / 10 ^ (k + 1))).length + 1) = pd (k + 1) N := by
      rw [← List.drop_drop, List.drop_left' rfl]
      rfl
    rw [hdr, hp, List.length_append, List.length_cons]
    omega
theorem text_head (N sc : Nat) : ∃ c r, textU N sc = c :: r ∧ figs.contains c = true := by
  have h : ∀ M : Nat, ∃ c r, decDigits M = c :: r ∧ figs.contains c = true := fun M => by
    obtain ⟨k, hk⟩ : ∃ k, nDigits M = k + 1 := ⟨nDigits M - 1, by have := nDigits_pos M; omega⟩
    refine ⟨_, _, by rw [dec_pd, hk, pd_cons], ?_⟩
    exact figs_pd (k := k + 1) (n := M) (by rw [pd_cons]; exact List.mem_cons_self ..)
  unfold textU
  split
  · exact h N
  · obtain ⟨c, r, h1, h2⟩ := h (N / 10 ^ sc)
    exact ⟨c, _, by rw [h1]; rfl, h2⟩

theorem lxP_eq (m : Int) (w : World) (hw : OKW m w) (l : Bs) (hl : l.length ≤ 4000000) {a b c : Int} {Q : World → Prop}
    (h : Calls Tryz.prog 201 #[.string (bs l)] w fun e w' => e = .returned (.tuple #[.agg #[.int .i64 a, .int .i64 b], .int .i64 c]) ∧ Q w') : (lxP m l).n = a ∧ (lxP m l).s = b ∧ (lxP m l).e = c := by
  have h1 := (lx_ok m).P (bs l) l rfl hl w hw
  have h2 := calls_det (by kernel_rfl) h1 h
  simp at h2
  exact ⟨h2.1.1, h2.1.2, h2.2⟩
theorem lxD_eq (m : Int) (w : World) (hw : OKW m w) (l : Bs) (hl : l.length ≤ 4000000) {a c : Int} {Q : World → Prop}
    (h : Calls Tryz.prog 165 #[.string (bs l)] w fun e w' => e = .returned (.tuple #[.int .i64 a, .int .i64 c]) ∧ Q w') : (lxD m l).1 = a ∧ (lxD m l).2 = c := by
  have h1 := (lx_ok m).D (bs l) l rfl hl w hw
  have h2 := calls_det (by kernel_rfl) h1 h
  simp at h2
  exact h2
theorem yT_eq (m : Int) (w : World) (hw : OKW m w) (n : Int) {l : Bs} {c : Int} {Q : World → Prop}
    (h : Calls Tryz.prog 142 #[.int .i64 n] w fun e w' => e = .returned (.tuple #[.string (bs l), .int .i64 c]) ∧ Q w') : (yT n).1 = l ∧ (yT n).2 = c := by
  have h1 := (yT_spec n).2.1 w hw.tab
  have h2 := calls_det (by kernel_rfl) h1 h
  simp at h2
  refine ⟨?_, h2.2⟩
  have := congrArg (fun b : ByteArray => b.data.toList) h2.1
  exact this

theorem ok0 : I64 0 := ⟨by decide, by decide⟩
end Go.Proofs.YtkkeplmaphcblaaGreatDoor

namespace Go.Proofs.YtkkeplmaphcblaaGreatDoor
open Go.RowKit
open Go.Lib hiding intOf

/-- Tokens alike but for their places. -/
def like : List Tk → List Tk → Prop
  | [], [] => True
  | t :: a, u :: b => (u.k = t.k ∧ u.t = t.t ∧ u.n = t.n ∧ u.s = t.s ∧ u.m = t.m) ∧ like a b
  | _, _ => False
/-- A text has these tokens, wherever they stand. -/
def Reads (x : Lx) (l : Bs) (T : List Tk) : Prop := ∀ (a : Nat) (acc : List Tk), ∃ T', toksF x a l acc = ⟨acc ++ T', 0, 0⟩ ∧ like T T'
theorem reads_nil (x : Lx) : Reads x [] [] := fun a acc => ⟨[], by rw [toksF_nil, List.append_nil], trivial⟩
theorem reads_blank {x : Lx} {M : Bs} {T : List Tk} (h : Reads x M T) : Reads x (32 :: M) T := fun a acc => by
  rw [toksF_blank]
  exact h (a + 1) acc
theorem reads_tok {x : Lx} {o M : Bs} {t : Tk} {T : List Tk} (hn : nextS x o = ⟨t, o.length, 0⟩) (hw : runS whites o = 0) (hM : Stop M) (h : Reads x M T) : Reads x (o ++ M) (t :: T) := fun a acc => by
  obtain ⟨T', h1, h2⟩ := h (a + o.length) (acc ++ [{ t with a := a }])
  refine ⟨{ t with a := a } :: T', ?_, ⟨rfl, rfl, rfl, rfl, rfl⟩, h2⟩
  rw [toksF_tok hn hw hM, h1]
  simp
def sg (g : Bs) : Tk := ⟨5, 0, g, 0, 0, 0⟩
def nm (g : Bs) : Tk := ⟨4, 0, g, 0, 0, 0⟩
/-- A sign that does not hang on what follows. -/
theorem reads_sign {x : Lx} {g M : Bs} {T : List Tk} (hn : nextS x (g ++ M) = ⟨sg g, g.length, 0⟩) (hw : runS whites (g ++ M) = 0) (hg : g ≠ []) (h : Reads x M T) : Reads x (g ++ M) (sg g :: T) := fun a acc => by
  obtain ⟨T', h1, h2⟩ := h (a + g.length) (acc ++ [{ sg g with a := a }])
  refine ⟨{ sg g with a := a } :: T', ?_, ⟨rfl, rfl, rfl, rfl, rfl⟩, h2⟩
  obtain ⟨c, r, hc⟩ : ∃ c r, g ++ M = c :: r := by
    cases g with
    | nil => exact absurd rfl hg
    | cons c r => exact ⟨c, _, rfl⟩
  have hgo := toksA_go (x := x) (f := (g ++ M).length) (a := a) (l := g ++ M) (acc := acc) (c := c) (r := r) (by rw [hw, hc]; rfl) (by rw [← hc, hn])
  rw [← hc, hn, hw] at hgo
  have hd : (g ++ M).drop g.length = M := by simp
  rw [hd] at hgo
  have hgl : 1 ≤ g.length := by cases g with | nil => exact absurd rfl hg | cons c r => simp
  refine hgo.trans ?_
  rw [toksF_fuel x (by rw [List.length_append]; omega), show a + 0 + g.length = a + g.length by omega]
  refine h1.trans ?_
  simp
theorem reads_open {x : Lx} {M : Bs} {T : List Tk} (h : Reads x M T) : Reads x (40 :: M) (sg [40] :: T) := reads_sign (g := [40]) rfl rfl (by decide) h
theorem reads_close {x : Lx} {M : Bs} {T : List Tk} (h : Reads x M T) : Reads x (41 :: M) (sg [41] :: T) := reads_sign (g := [41]) rfl rfl (by decide) h
theorem reads_minus {x : Lx} {M : Bs} {T : List Tk} (h : Reads x M T) : Reads x (45 :: M) (sg [45] :: T) := reads_sign (g := [45]) rfl rfl (by decide) h
/-- May it be a value? -/
def vSound (v : Vl) : Prop :=
  (v.k = 0 ∧ v.n = 0 ∧ v.s = 0 ∧ v.t = [] ∧ v.m = 0) ∨ (v.k = 1 ∧ soundS v.n v.s = true ∧ v.t = [] ∧ v.m = 0) ∨ (v.k = 2 ∧ v.n = 0 ∧ v.s = 0 ∧ v.m = 0 ∧ v.t.length ≤ 256 ∧ goodS (bs v.t) = true) ∨ (v.k = 3 ∧ v.n = 0 ∧ v.s = 0 ∧ v.t = [] ∧ (v.m = 0 ∨ v.m = 1)) ∨ (v.k = 4 ∧ v.n = 0 ∧ v.s = 0 ∧ v.t = [] ∧ 0 ≤ v.m ∧ v.m ≤ 3652058)
/-- A value as it is written. -/
noncomputable def vtxt (v : Vl) : Bs :=
  if v.k = 1 then (dT v.n v.s).1 else if v.k = 2 then 34 :: (escB v.t ++ [34]) else if v.k = 3 then (if v.m = 0 then falseB else trueB) else if v.k = 4 then 64 :: 34 :: ((yT v.m).1 ++ [34]) else nullB
/-- The tokens of a value. -/
def vtoks (v : Vl) : List Tk :=
  if v.k = 1 then (if v.n < 0 then [sg [45], ⟨1, 0, [], -v.n, v.s, 0⟩] else [⟨1, 0, [], v.n, v.s, 0⟩])
  else if v.k = 2 then [⟨2, 0, v.t, 0, 0, 0⟩] else if v.k = 3 then [nm (if v.m = 0 then falseB else trueB)] else if v.k = 4 then [⟨3, 0, [], 0, 0, v.m⟩] else [nm nullB]
theorem num_next (m : Int) (w : World) (hw : OKW m w) (n s : Int) (h0 : ¬ n < 0) (sd : soundS n s = true) : nextS (lxX m) (textU n.toNat s.toNat) = ⟨⟨1, 0, [], n, s, 0⟩, (textU n.toNat s.toNat).length, 0⟩ ∧ runS whites (textU n.toNat s.toNat) = 0 := by
  obtain ⟨b1, b2, b3, b4, _⟩ := sound_bd sd
  have hm0 : decide (n < 0) = false := decide_eq_false h0
  have hmg : mag n = n := by unfold mag; rw [if_neg h0]
  obtain ⟨c', r', h1, h2⟩ := text_head n.toNat s.toNat
  have hnx : nextS (lxX m) (textU n.toNat s.toNat) = numS (lxX m) (textU n.toNat s.toNat) := by
    rw [h1]
    unfold nextS
    exact if_pos h2
  have hl := textU_len (N := n.toNat) (sc := s.toNat) (by omega) (by omega)
  refine ⟨?_, ?_⟩
  · rw [hnx]
    unfold numS
    rw [numLen_text, List.take_length]
    have hb := parse_back n s n.toNat s.toNat sd (by omega) (by rw [hmg]; omega) (bs (textU n.toNat s.toNat)) (by rw [hm0]; rfl) m w hw.hm
    obtain ⟨g1, g2, g3⟩ := lxP_eq m w hw _ (by omega) hb
    have hP : (lxX m).P (textU n.toNat s.toNat) = lxP m (textU n.toNat s.toNat) := rfl
    rw [hP, g1, g2, g3]
  · rw [h1, runS_cons]
    split
    · rename_i hc
      exfalso
      have h3 : c' = 32 ∨ c' = 9 ∨ c' = 13 ∨ c' = 10 := by
        rw [List.contains_iff_mem] at hc
        simpa [whites] using hc
      rcases h3 with rfl | rfl | rfl | rfl <;> cases h2
    · rfl
theorem sound_neg {n s : Int} (h : soundS n s = true) : soundS (-n) s = true := by
  rw [sound_iff] at h ⊢
  unfold soundB at h ⊢
  have h2 := of_decide_eq_true h
  have hb := big_def
  exact decide_eq_true ⟨h2.1, h2.2.1, by omega, by omega, by omega⟩
/-- A value's text has the value's tokens. -/
theorem reads_val (m : Int) (w : World) (hw : OKW m w) {v : Vl} (hv : vSound v) {M : Bs} {T : List Tk} (hM : Stop M) (h : Reads (lxX m) M T) : Reads (lxX m) (vtxt v ++ M) (vtoks v ++ T) := by
  obtain ⟨k, n, s, t, mm⟩ := v
  rcases hv with ⟨h1, h2, h3, h4, h5⟩ | ⟨h1, h2, h3, h4⟩ | ⟨h1, h2, h3, h4, h5, h6⟩ | ⟨h1, h2, h3, h4, h5⟩ | ⟨h1, h2, h3, h4, h5, h6⟩
  · simp only at h1 h2 h3 h4 h5
    subst h1 h2 h3 h4 h5
    exact reads_tok (o := nullB) (t := nm nullB) rfl rfl hM h
  · simp only at h1 h2 h3 h4
    subst h1 h3 h4
    by_cases hn : n < 0
    · have hd : dT n s = (45 :: textU (-n).toNat s.toNat, 0) := by
        unfold dT
        rw [if_pos h2, decide_eq_true hn]
        have : mag n = -n := by unfold mag; rw [if_pos hn]
        rw [this]
        rfl
      obtain ⟨g1, g2⟩ := num_next m w hw (-n) s (by omega) (sound_neg h2)
      have e1 : vtxt ⟨1, n, s, [], 0⟩ = 45 :: textU (-n).toNat s.toNat := by simp [vtxt, hd]
      have e2 : vtoks ⟨1, n, s, [], 0⟩ = [sg [45], ⟨1, 0, [], -n, s, 0⟩] := by simp [vtoks, hn]
      rw [e1, e2]
      exact reads_minus (reads_tok g1 g2 hM h)
    · have hd : dT n s = (textU n.toNat s.toNat, 0) := by
        unfold dT
        rw [if_pos h2, decide_eq_false hn]
        have : mag n = n := by unfold mag; rw [if_neg hn]
        rw [this]
        rfl
      obtain ⟨g1, g2⟩ := num_next m w hw n s hn h2
      have e1 : vtxt ⟨1, n, s, [], 0⟩ = textU n.toNat s.toNat := by simp [vtxt, hd]
      have e2 : vtoks ⟨1, n, s, [], 0⟩ = [⟨1, 0, [], n, s, 0⟩] := by simp [vtoks, hn]
      rw [e1, e2]
      exact reads_tok g1 g2 hM h
  · simp only at h1 h2 h3 h4 h5 h6
    subst h1 h2 h3 h4
    have e1 : vtxt ⟨2, 0, 0, t, 0⟩ = 34 :: (escB t ++ [34]) := by simp [vtxt]
    have e2 : vtoks ⟨2, 0, 0, t, 0⟩ = [⟨2, 0, t, 0, 0, 0⟩] := by simp [vtoks]
    rw [e1, e2]
    refine reads_tok (o := 34 :: (escB t ++ [34])) ?_ rfl hM h
    show strS (lxX m) (escB t ++ 34 :: []) = _
    unfold strS
    rw [qS_esc]
    simp only
    rw [if_neg (by
      rintro (h | h)
      · omega
      · have hG : (lxX m).G t = goodS (bs t) := rfl
        rw [hG, h6] at h
        cases h)]
    simp
  · simp only at h1 h2 h3 h4 h5
    subst h1 h2 h3 h4
    rcases h5 with rfl | rfl
    · exact reads_tok (o := falseB) (t := nm falseB) rfl rfl hM h
    · exact reads_tok (o := trueB) (t := nm trueB) rfl rfl hM h
  · simp only at h1 h2 h3 h4 h5 h6
    subst h1 h2 h3 h4
    obtain ⟨l, l10, lb, lt, lp⟩ := Days.text_read mm h5 h6
    obtain ⟨y1, y2⟩ := yT_eq m w hw mm (lt w hw.tab)
    have e1 : vtxt ⟨4, 0, 0, [], mm⟩ = 64 :: 34 :: (l ++ [34]) := by simp [vtxt, y1]
    have e2 : vtoks ⟨4, 0, 0, [], mm⟩ = [⟨3, 0, [], 0, 0, mm⟩] := by simp [vtoks]
    rw [e1, e2]
    refine reads_tok (o := 64 :: 34 :: (l ++ [34])) ?_ rfl hM h
    show dateS (lxX m) (34 :: (l ++ 34 :: [])) = _
    obtain ⟨g1, g2⟩ := lxD_eq m w hw l (by omega) (lp m w hw.hm)
    have hDl : (lxX m).D l = (mm, 0) := by
      show lxD m l = _
      rw [← g1, ← g2]
    have hqd : quoD (34 :: (l ++ 34 :: [])) = some (l, 11) := by
      unfold quoD
      rw [if_pos (show (34 :: (l ++ 34 :: [])).head? = some 34 from rfl)]
      show qS (l ++ 34 :: []) = _
      rw [qS_plain l [] lb, l10]
    unfold dateS
    rw [hqd]
    simp only [hDl]
    rw [if_neg (by simp)]
    simp [l10]
end Go.Proofs.YtkkeplmaphcblaaGreatDoor

namespace Go.Proofs.YtkkeplmaphcblaaGreatDoor
open Go.RowKit

theorem stop32 (M : Bs) : Stop (32 :: M) := stop_of rfl (by decide) (by decide)
theorem stop41 (M : Bs) : Stop (41 :: M) := stop_of rfl (by decide) (by decide)
/-- The parser stands ahead of these tokens. -/
structure On (p : PS) (T : List Tk) : Prop where
  e : p.e = 0
  le : p.nx ≤ p.L.length
  lk : like T (p.L.drop p.nx)
section
variable {p : PS} {t : Tk} {T : List Tk}
theorem On.get (h : On p (t :: T)) : ∃ u, p.L[p.nx]? = some u ∧ (u.k = t.k ∧ u.t = t.t ∧ u.n = t.n ∧ u.s = t.s ∧ u.m = t.m) ∧ like T (p.L.drop (p.nx + 1)) ∧ p.nx < p.L.length := by
  have h1 := h.lk
  cases hd : p.L.drop p.nx with
  | nil => rw [hd] at h1; exact h1.elim
  | cons u r =>
    rw [hd] at h1
    have hlt : p.nx < p.L.length := by
      have := congrArg List.length hd
      rw [List.length_drop, List.length_cons] at this
      omega
    have h2 := List.drop_eq_getElem_cons hlt
    rw [hd] at h2
    injection h2 with h3 h4
    refine ⟨u, by rw [List.getElem?_eq_getElem hlt, ← h3], h1.1, by rw [← h4]; exact h1.2, hlt⟩
theorem On.is_ (h : On p (t :: T)) (s : Bs) : p.isS s = ((t.k == 4 || t.k == 5) && t.t == s) := by
  obtain ⟨u, hu, ⟨g1, g2, _⟩, _⟩ := h.get
  rw [isS_some h.e hu, g1, g2]
theorem On.end_ (h : On p []) : p.nx = p.L.length := by
  have h1 := h.lk
  cases hd : p.L.drop p.nx with
  | nil =>
    have := congrArg List.length hd
    rw [List.length_drop, List.length_nil] at this
    have := h.le
    omega
  | cons u r => rw [hd] at h1; exact h1.elim
theorem On.is_nil (h : On p []) (s : Bs) : p.isS s = false := isS_none (List.getElem?_eq_none (by rw [h.end_]; exact Nat.le_refl _))
theorem On.adv (h : On p (t :: T)) : On p.adv T := by
  obtain ⟨u, hu, _, g, hlt⟩ := h.get
  exact ⟨h.e, hlt, g⟩
theorem On.val (h : On p (t :: T)) : p.val = valT t := by
  obtain ⟨u, hu, ⟨g1, g2, g3, g4, g5⟩, _⟩ := h.get
  unfold PS.val
  rw [if_pos h.e, hu]
  simp only
  unfold valT
  rw [g1, g2, g3, g4, g5]
theorem On.need {s : Bs} (h : On p (sg s :: T)) : p.need s = p.adv ∧ On p.adv T := by
  refine ⟨?_, h.adv⟩
  unfold PS.need
  rw [h.is_]
  simp [sg]
end
end Go.Proofs.YtkkeplmaphcblaaGreatDoor

namespace Go.Proofs.YtkkeplmaphcblaaGreatDoor
open Go.RowKit

def Ex.op : Ex → Int | .mk o _ _ _ => o
def Ex.v : Ex → Vl | .mk _ v _ _ => v
def Ex.nm : Ex → Bs | .mk _ _ n _ => n
def Ex.kids : Ex → List Ex | .mk _ _ _ k => k
/-- The sign of an operator, and its level. -/
def signE (o : Int) : Bs :=
  if o = 4 then [43] else if o = 5 then [45] else if o = 6 then [42] else if o = 7 then [47] else if o = 8 then [61] else if o = 9 then [33, 61]
  else if o = 10 then [60] else if o = 11 then [60, 61] else if o = 12 then [62] else if o = 13 then [62, 61] else if o = 14 then [97, 110, 100] else [111, 114]
def lvlE (o : Int) : Nat := if o = 15 then 0 else if o = 14 then 1 else if 8 ≤ o then 2 else if o = 4 ∨ o = 5 then 3 else 4
def tokE (o : Int) : Tk := if 14 ≤ o then nm (signE o) else sg (signE o)
/-- Words are no names. -/
def WOK (W : Bs → Bool) : Prop := ∀ s, W s = true → s ≠ nullB ∧ s ≠ trueB ∧ s ≠ falseB ∧ s ≠ [97, 110, 100] ∧ s ≠ [111, 114] ∧ s ≠ bNot ∧ s ≠ bIf ∧ s ≠ bThen ∧ s ≠ bElse ∧ ∀ c ∈ s, (lets ++ figs).contains c = true
/-- May it be an expression, but for how deep it is, and how many parts it has? -/
inductive ES (W : Bs → Bool) : Ex → Prop where
  | val (v : Vl) (h : vSound v) (h0 : 0 ≤ v.n) : ES W (.mk 1 v [] [])
  | name (s : Bs) (h : W s = true) : ES W (.mk 2 zeroV s [])
  | neg (a : Ex) (h : ES W a) : ES W (.mk 3 zeroV [] [a])
  | bin (o : Int) (a b : Ex) (h4 : 4 ≤ o) (h15 : o ≤ 15) (ha : ES W a) (hb : ES W b) : ES W (.mk o zeroV [] [a, b])
  | not (a : Ex) (h : ES W a) : ES W (.mk 16 zeroV [] [a])
  | ife (a b c : Ex) (ha : ES W a) (hb : ES W b) (hc : ES W c) : ES W (.mk 17 zeroV [] [a, b, c])
def br (k : List Ex) (T : List Tk) : List Tk := if k.isEmpty then T else sg [40] :: (T ++ [sg [41]])
/-- The tokens of an expression as it is written. -/
def etoks : Ex → List Tk
  | .mk o v s [] => if o = 1 then vtoks v else [nm s]
  | .mk o _ _ [a] => if o = 3 then sg [45] :: br a.kids (etoks a) else nm bNot :: sg [40] :: (etoks a ++ [sg [41]])
  | .mk o _ _ [a, b] => br a.kids (etoks a) ++ tokE o :: br b.kids (etoks b)
  | .mk _ _ _ (a :: b :: c :: _) => nm bIf :: (br a.kids (etoks a) ++ nm bThen :: (br b.kids (etoks b) ++ nm bElse :: br c.kids (etoks c)))
def ptoks (x : Ex) : List Tk := br x.kids (etoks x)
/-- How deep, and how many parts. -/
def dep : Ex → Nat
  | .mk _ _ _ [] => 1
  | .mk _ _ _ [a] => 1 + dep a
  | .mk _ _ _ [a, b] => 1 + max (dep a) (dep b)
  | .mk _ _ _ (a :: b :: c :: _) => 1 + max (dep a) (max (dep b) (dep c))
def cnt : Ex → Nat
  | .mk _ _ _ [] => 1
  | .mk _ _ _ [a] => 1 + cnt a
  | .mk _ _ _ [a, b] => 1 + cnt a + cnt b
  | .mk _ _ _ (a :: b :: c :: _) => 1 + cnt a + cnt b + cnt c
theorem dep_pos (x : Ex) : 1 ≤ dep x := by
  match x with
  | .mk _ _ _ [] => simp [dep]
  | .mk _ _ _ [a] => simp [dep]
  | .mk _ _ _ [a, b] => simp [dep]
  | .mk _ _ _ (a :: b :: c :: _) => simp [dep]

theorem vtoks_one {v : Vl} (hv : vSound v) (h0 : 0 ≤ v.n) : ∃ t, vtoks v = [t] ∧ valT t = some v ∧ ∀ s : Bs, s ≠ nullB → s ≠ trueB → s ≠ falseB → ((t.k == 4 || t.k == 5) && t.t == s) = false := by
  obtain ⟨k, n, c, l, m⟩ := v
  simp only at h0
  rcases hv with ⟨h1, h2, h3, h4, h5⟩ | ⟨h1, h2, h3, h4⟩ | ⟨h1, h2, h3, h4, h5, h6⟩ | ⟨h1, h2, h3, h4, h5⟩ | ⟨h1, h2, h3, h4, h5, h6⟩
  · simp only at h1 h2 h3 h4 h5
    subst h1 h2 h3 h4 h5
    exact ⟨nm nullB, rfl, rfl, fun s g _ _ => by simpa [nm] using fun e => g e.symm⟩
  · simp only at h1 h2 h3 h4
    subst h1 h3 h4
    have hn : ¬ n < 0 := by omega
    exact ⟨⟨1, 0, [], n, c, 0⟩, by simp [vtoks, hn], rfl, fun s _ _ _ => rfl⟩
  · simp only at h1 h2 h3 h4
    subst h1 h2 h3 h4
    exact ⟨⟨2, 0, l, 0, 0, 0⟩, by simp [vtoks], rfl, fun s _ _ _ => rfl⟩
  · simp only at h1 h2 h3 h4 h5
    subst h1 h2 h3 h4
    rcases h5 with rfl | rfl
    · exact ⟨nm falseB, by simp [vtoks], rfl, fun s _ _ g => by simpa [nm] using fun e => g e.symm⟩
    · exact ⟨nm trueB, by simp [vtoks], rfl, fun s _ g _ => by simpa [nm] using fun e => g e.symm⟩
  · simp only at h1 h2 h3 h4
    subst h1 h2 h3 h4
    exact ⟨⟨3, 0, [], 0, 0, m⟩, by simp [vtoks], rfl, fun s _ _ _ => rfl⟩

/-- No operator stands next. -/
def NoOp (R : List Tk) : Prop := ∀ q, On q R → ∀ n, q.oper n = none
theorem oper_of {q : PS} {n : Nat} {s : Bs} (h : ∀ g, q.isS g = (s == g)) : q.oper n = ((levelS n).1.find? (fun g => s == g.1)).map (·.2) := by
  unfold PS.oper
  have : (fun g : Bs × Int => q.isS g.1) = fun g => s == g.1 := funext fun g => h g.1
  rw [this]
theorem noop_word {t : Tk} {R : List Tk} (hk : t.k = 4 ∨ t.k = 5) (h : ∀ n, ((levelS n).1.find? (fun g => t.t == g.1)) = none) : NoOp (t :: R) := fun q hq n => by
  have hk2 : (t.k == 4 || t.k == 5) = true := by simpa using hk
  rw [oper_of (s := t.t) fun g => by rw [hq.is_, hk2, Bool.true_and]]
  rw [h n]
  rfl
theorem lev_cases (P : Nat → Prop) (h0 : P 0) (h1 : P 1) (h2 : P 2) (h3 : P 3) (h4 : ∀ n, P (n + 4)) : ∀ n, P n
  | 0 => h0
  | 1 => h1
  | 2 => h2
  | 3 => h3
  | n + 4 => h4 n
theorem noop_close (R : List Tk) : NoOp (sg [41] :: R) := noop_word (.inr rfl) (lev_cases _ rfl rfl rfl rfl fun _ => rfl)
theorem noop_then (R : List Tk) : NoOp (nm bThen :: R) := noop_word (.inl rfl) (lev_cases _ rfl rfl rfl rfl fun _ => rfl)
theorem noop_else (R : List Tk) : NoOp (nm bElse :: R) := noop_word (.inl rfl) (lev_cases _ rfl rfl rfl rfl fun _ => rfl)
theorem noop_nil : NoOp [] := fun q hq n => by
  unfold PS.oper
  rw [List.find?_eq_none.2 (fun g _ => by rw [hq.is_nil]; decide)]
  rfl
theorem op_cases {o : Int} (h4 : 4 ≤ o) (h15 : o ≤ 15) (P : Int → Prop) (p4 : P 4) (p5 : P 5) (p6 : P 6) (p7 : P 7) (p8 : P 8) (p9 : P 9) (p10 : P 10) (p11 : P 11) (p12 : P 12) (p13 : P 13) (p14 : P 14) (p15 : P 15) : P o := by
  have : o = 4 ∨ o = 5 ∨ o = 6 ∨ o = 7 ∨ o = 8 ∨ o = 9 ∨ o = 10 ∨ o = 11 ∨ o = 12 ∨ o = 13 ∨ o = 14 ∨ o = 15 := by omega
  rcases this with rfl | rfl | rfl | rfl | rfl | rfl | rfl | rfl | rfl | rfl | rfl | rfl <;> assumption
theorem tokE_is {o : Int} (_h4 : 4 ≤ o) (_h15 : o ≤ 15) {q : PS} {R : List Tk} (hq : On q (tokE o :: R)) (g : Bs) : q.isS g = (signE o == g) := by
  have hk : ((tokE o).k == 4 || (tokE o).k == 5) = true ∧ (tokE o).t = signE o := by
    unfold tokE
    split <;> exact ⟨rfl, rfl⟩
  rw [hq.is_, hk.1, hk.2, Bool.true_and]
theorem oper_at {o : Int} (h4 : 4 ≤ o) (h15 : o ≤ 15) {q : PS} {R : List Tk} (hq : On q (tokE o :: R)) : q.oper (lvlE o) = some o := by
  rw [oper_of (tokE_is h4 h15 hq)]
  exact op_cases h4 h15 (fun o => ((levelS (lvlE o)).1.find? (fun g => signE o == g.1)).map (·.2) = some o) rfl rfl rfl rfl rfl rfl rfl rfl rfl rfl rfl rfl
theorem oper_off {o : Int} (h4 : 4 ≤ o) (h15 : o ≤ 15) {q : PS} {R : List Tk} (hq : On q (tokE o :: R)) {n : Nat} (hn : n ≤ 4) (hne : n ≠ lvlE o) : q.oper n = none := by
  rw [oper_of (tokE_is h4 h15 hq)]
  have main : ∀ n : Nat, n ≤ 4 → n ≠ lvlE o → ((levelS n).1.find? (fun g => signE o == g.1)).map (·.2) = none := by
    refine op_cases h4 h15 (fun o => ∀ n : Nat, n ≤ 4 → n ≠ lvlE o → ((levelS n).1.find? (fun g => signE o == g.1)).map (·.2) = none) ?_ ?_ ?_ ?_ ?_ ?_ ?_ ?_ ?_ ?_ ?_ ?_ <;>
    · intro n hn hne
      match n, hn, hne with
      | 0, _, hne => first | rfl | exact absurd rfl hne
      | 1, _, hne => first | rfl | exact absurd rfl hne
      | 2, _, hne => first | rfl | exact absurd rfl hne
      | 3, _, hne => first | rfl | exact absurd rfl hne
      | 4, _, hne => first | rfl | exact absurd rfl hne
  exact main n hn hne
theorem lvl_le {o : Int} : lvlE o ≤ 4 := by
  unfold lvlE
  (repeat' split) <;> omega

/-- A level above, where no operator of this one follows. -/
theorem lift1 {W : Bs → Bool} {p q : PS} {d n F : Nat} {x : Ex} (hn : n ≤ 4) (h : ∀ f, F ≤ f → chainF W f p d (n + 1) = (x, q)) (ho : q.oper n = none) (f : Nat) (hf : F + 2 ≤ f) : chainF W f p d n = (x, q) := by
  obtain ⟨f', rfl⟩ : ∃ f', f = f' + 2 := ⟨f - 2, by omega⟩
  unfold chainF
  rw [if_neg (by omega), h (f' + 1) (by omega)]
  simp only
  unfold moreF
  split
  · rw [ho]
  · rfl
theorem lift {W : Bs → Bool} {p q : PS} {d F : Nat} {x : Ex} {m : Nat} (h : ∀ f, F ≤ f → chainF W f p d m = (x, q)) (hm : m ≤ 5) : ∀ k n, n + k = m → (∀ j, n ≤ j → j < m → q.oper j = none) → ∀ f, F + 2 * k ≤ f → chainF W f p d n = (x, q)
  | 0, n, e, _, f, hf => by
    obtain rfl : n = m := by omega
    exact h f (by omega)
  | k + 1, n, e, ho, f, hf => lift1 (by omega) (F := F + 2 * k) (fun f hf => lift h hm k (n + 1) (by omega) (fun j h1 h2 => ho j (by omega) h2) f hf) (ho n (Nat.le_refl _) (by omega)) f (by omega)
theorem chain5 {W : Bs → Bool} {p q : PS} {d F : Nat} {x : Ex} (h : ∀ f, F ≤ f → prefixF W f p d = (x, q)) (f : Nat) (hf : F + 1 ≤ f) : chainF W f p d 5 = (x, q) := by
  obtain ⟨f', rfl⟩ : ∃ f', f = f' + 1 := ⟨f - 1, by omega⟩
  unfold chainF
  rw [if_pos (by decide)]
  exact h f' (by omega)

theorem made_ok {p : PS} {N : Nat} (h : p.md + (N + 1 : Nat) ≤ 4096) : p.made = { p with md := p.md + 1 } := by
  unfold PS.made
  rw [if_neg (by omega)]
theorem On.md {p : PS} {T : List Tk} (h : On p T) (z : Int) : On { p with md := z } T := ⟨h.e, h.le, h.lk⟩
theorem On.deep {p : PS} {T : List Tk} (_h : On p T) {d : Nat} (hd : d ≤ 64) : p.deep d = p := by
  unfold PS.deep
  rw [if_neg (by omega)]

/-- What Expr comes to where a chain does. -/
theorem expr_chain {W : Bs → Bool} {p q : PS} {d F : Nat} {x : Ex} {T : List Tk} (hp : On p T) (hd : d ≤ 64) (hi : p.isS bIf = false) (h : ∀ f, F ≤ f → chainF W f p d 0 = (x, q)) (f : Nat) (hf : F + 1 ≤ f) : exprF W f p d = (x, q) := by
  obtain ⟨f', rfl⟩ : ∃ f', f = f' + 1 := ⟨f - 1, by omega⟩
  unfold exprF
  rw [hp.deep hd, if_neg (by rw [hi]; exact fun h => Bool.noConfusion h.2)]
  exact h f' (by omega)
/-- The tokens' head, and that it is no if. -/
theorem etoks_if {W : Bs → Bool} (hW : WOK W) {x : Ex} (hx : ES W x) {p : PS} {R : List Tk} (hp : On p (ptoks x ++ R)) : p.isS bIf = false := by
  have main : ∀ (x : Ex) (hx : ES W x) (p : PS) (R : List Tk), x.kids = [] → On p (etoks x ++ R) → p.isS bIf = false := by
    intro x hx p R hk hp
    cases hx with
    | val v h h0 =>
      obtain ⟨t, h1, h2, h3⟩ := vtoks_one h h0
      have hp2 : On p (t :: R) := by simpa [etoks, h1] using hp
      rw [hp2.is_]
      exact h3 _ (by decide) (by decide) (by decide)
    | name s h =>
      have hp2 : On p (nm s :: R) := by simpa [etoks] using hp
      rw [hp2.is_]
      simpa [nm] using (hW s h).2.2.2.2.2.2.1
    | neg a h => cases hk
    | bin o a b h4 h15 ha hb => cases hk
    | not a h => cases hk
    | ife a b c ha hb hc => cases hk
  by_cases hk : x.kids = []
  · refine main x hx p R hk ?_
    unfold ptoks br at hp
    rw [hk] at hp
    exact hp
  · unfold ptoks br at hp
    have he : x.kids.isEmpty = false := by
      cases hx2 : x.kids with
      | nil => exact absurd hx2 hk
      | cons a r => rfl
    rw [he] at hp
    have hp2 : On p (sg [40] :: ((etoks x ++ [sg [41]]) ++ R)) := hp
    rw [hp2.is_]
    rfl

/-- What the tokens of an expression are read as. -/
def RdA (W : Bs → Bool) (x : Ex) : Prop := ∀ (p : PS) (d : Nat) (R : List Tk), d + dep x + 1 ≤ 65 → p.md + (cnt x : Nat) ≤ 4096 → On p (ptoks x ++ R) → ∃ q, (∀ f, 20 * dep x + 20 ≤ f → prefixF W f p d = (x, q)) ∧ On q R ∧ q.md = p.md + (cnt x : Nat)
def RdB (W : Bs → Bool) (x : Ex) : Prop := ∀ (p : PS) (d : Nat) (R : List Tk), d + dep x ≤ 65 → p.md + (cnt x : Nat) ≤ 4096 → NoOp R → On p (etoks x ++ R) → ∃ q, (∀ f, 20 * dep x + 15 ≤ f → exprF W f p d = (x, q)) ∧ On q R ∧ q.md = p.md + (cnt x : Nat)
/-- A part that stands in brackets if it has parts. -/
theorem part_expr {W : Bs → Bool} (hW : WOK W) {x : Ex} (hx : ES W x) (hA : RdA W x) (p : PS) (d : Nat) (R : List Tk) (hd : d + dep x + 1 ≤ 65) (hm : p.md + (cnt x : Nat) ≤ 4096) (hR : NoOp R) (h : On p (ptoks x ++ R)) : ∃ q, (∀ f, 20 * dep x + 32 ≤ f → exprF W f p d = (x, q)) ∧ On q R ∧ q.md = p.md + (cnt x : Nat) := by
  obtain ⟨q, h1, h2, h3⟩ := hA p d R hd hm h
  have hp := dep_pos x
  exact ⟨q, fun f hf => expr_chain h (by omega) (etoks_if hW hx h) (fun f hf => lift (chain5 h1) (Nat.le_refl _) 5 0 rfl (fun j _ _ => hR q h2 j) f hf) f (by omega), h2, h3⟩
/-- In brackets. -/
theorem rdA_of {W : Bs → Bool} {x : Ex} (hk : x.kids ≠ []) (hB : RdB W x) : RdA W x := by
  intro p d R hd hm hp
  have he : x.kids.isEmpty = false := by
    cases hx2 : x.kids with
    | nil => exact absurd hx2 hk
    | cons a r => rfl
  have hp2 : On p (sg [40] :: (etoks x ++ (sg [41] :: R))) := by
    unfold ptoks br at hp
    rw [he] at hp
    simpa using hp
  obtain ⟨q, h1, h2, h3⟩ := hB p.adv (d + 1) (sg [41] :: R) (by omega) hm (noop_close R) hp2.adv
  obtain ⟨n1, n2⟩ := h2.need
  refine ⟨q.adv, fun f hf => ?_, n2, h3⟩
  obtain ⟨f', rfl⟩ : ∃ f', f = f' + 1 := ⟨f - 1, by omega⟩
  unfold prefixF
  rw [if_pos hp2.e, if_neg (by rw [hp2.is_]; decide), if_pos (by rw [hp2.is_]; rfl)]
  rw [h1 f' (by omega)]
  simp only
  rw [n1]
/-- What a prefix is, an expression is. -/
theorem rdB_prefix {W : Bs → Bool} {x : Ex} {p q : PS} {d : Nat} {R T : List Tk} (hp : On p T) (hd : d ≤ 64) (hi : p.isS bIf = false) {F : Nat} (hR : NoOp R) (h1 : ∀ f, F ≤ f → prefixF W f p d = (x, q)) (h2 : On q R) : ∀ f, F + 12 ≤ f → exprF W f p d = (x, q) := fun f hf =>
  expr_chain hp hd hi (fun f hf => lift (chain5 h1) (Nat.le_refl _) 5 0 rfl (fun j _ _ => hR q h2 j) f hf) f (by omega)
theorem rd_all {W : Bs → Bool} (hW : WOK W) {x : Ex} (hx : ES W x) : RdA W x ∧ RdB W x := by
  induction hx with
  | val v h h0 =>
    obtain ⟨t, h1, h2, h3⟩ := vtoks_one h h0
    have e1 : etoks (.mk 1 v [] []) = [t] := by simp [etoks, h1]
    have e2 : ptoks (.mk 1 v [] []) = [t] := by unfold ptoks br; rw [e1]; rfl
    have e3 : dep (.mk 1 v [] []) = 1 := by simp [dep]
    have e4 : cnt (.mk 1 v [] []) = 1 := by simp [cnt]
    have main : ∀ (p : PS) (d : Nat) (R : List Tk), p.md + (1 : Nat) ≤ 4096 → On p (t :: R) → ∃ q, (∀ f, 1 ≤ f → prefixF W f p d = (.mk 1 v [] [], q)) ∧ On q R ∧ q.md = p.md + (1 : Nat) := by
      intro p d R hm hp
      refine ⟨{ p.adv with md := p.md + 1 }, fun f hf => ?_, hp.adv.md _, rfl⟩
      obtain ⟨f', rfl⟩ : ∃ f', f = f' + 1 := ⟨f - 1, by omega⟩
      unfold prefixF
      rw [if_pos hp.e, if_neg (by rw [hp.is_, h3 _ (by decide) (by decide) (by decide)]; decide), if_neg (by rw [hp.is_, h3 _ (by decide) (by decide) (by decide)]; decide), if_neg (by rw [hp.is_, h3 _ (by decide) (by decide) (by decide)]; decide)]
      rw [hp.val, h2]
      simp only
      rw [made_ok (N := 0) (by exact hm)]
      rfl
    refine ⟨fun p d R hd hm hp => ?_, fun p d R hd hm hR hp => ?_⟩
    · rw [e2] at hp
      rw [e4] at hm ⊢
      obtain ⟨q, g1, g2, g3⟩ := main p d R hm hp
      exact ⟨q, fun f hf => g1 f (by omega), g2, g3⟩
    · rw [e1] at hp
      rw [e4] at hm ⊢
      obtain ⟨q, g1, g2, g3⟩ := main p d R hm hp
      have hp2 : On p (t :: R) := hp
      exact ⟨q, fun f hf => rdB_prefix hp (by omega) (by rw [hp2.is_]; exact h3 _ (by decide) (by decide) (by decide)) hR g1 g2 f (by omega), g2, g3⟩
  | name s h =>
    obtain ⟨w1, w2, w3, w4, w5, w6, w7, w8, w9, _⟩ := hW s h
    have e1 : etoks (.mk 2 zeroV s []) = [nm s] := by simp [etoks]
    have e2 : ptoks (.mk 2 zeroV s []) = [nm s] := by unfold ptoks br; rw [e1]; rfl
    have e3 : dep (.mk 2 zeroV s []) = 1 := by simp [dep]
    have e4 : cnt (.mk 2 zeroV s []) = 1 := by simp [cnt]
    have hsl : ∀ g : Bs, s ≠ g → (((nm s).k == 4 || (nm s).k == 5) && (nm s).t == g) = false := fun g hg => by simpa [nm] using hg
    have h45 : s ≠ [45] := by rintro rfl; have := (hW _ h).2.2.2.2.2.2.2.2.2 45 (List.mem_cons_self ..); cases this
    have h40 : s ≠ [40] := by rintro rfl; have := (hW _ h).2.2.2.2.2.2.2.2.2 40 (List.mem_cons_self ..); cases this
    have main : ∀ (p : PS) (d : Nat) (R : List Tk), p.md + (1 : Nat) ≤ 4096 → On p (nm s :: R) → ∃ q, (∀ f, 1 ≤ f → prefixF W f p d = (.mk 2 zeroV s [], q)) ∧ On q R ∧ q.md = p.md + (1 : Nat) := by
      intro p d R hm hp
      obtain ⟨u, hu, ⟨u1, u2, _⟩, _⟩ := hp.get
      refine ⟨{ p.adv with md := p.md + 1 }, fun f hf => ?_, hp.adv.md _, rfl⟩
      obtain ⟨f', rfl⟩ : ∃ f', f = f' + 1 := ⟨f - 1, by omega⟩
      have hval : p.val = none := by
        rw [hp.val]
        unfold valT
        simp [nm, w1, w2, w3]
      unfold prefixF
      rw [if_pos hp.e, if_neg (by rw [hp.is_, hsl _ h45]; decide), if_neg (by rw [hp.is_, hsl _ h40]; decide), if_neg (by rw [hp.is_, hsl _ w6]; decide)]
      rw [hval, hu]
      simp only
      rw [if_pos (by rw [u1, u2]; exact ⟨rfl, h⟩), u2, made_ok (N := 0) (by exact hm)]
      rfl
    refine ⟨fun p d R hd hm hp => ?_, fun p d R hd hm hR hp => ?_⟩
    · rw [e2] at hp
      rw [e4] at hm ⊢
      obtain ⟨q, g1, g2, g3⟩ := main p d R hm hp
      exact ⟨q, fun f hf => g1 f (by omega), g2, g3⟩
    · rw [e1] at hp
      rw [e4] at hm ⊢
      obtain ⟨q, g1, g2, g3⟩ := main p d R hm hp
      have hp2 : On p (nm s :: R) := hp
      exact ⟨q, fun f hf => rdB_prefix hp (by omega) (by rw [hp2.is_]; exact hsl _ w7) hR g1 g2 f (by omega), g2, g3⟩
  | neg a h ih =>
    have e1 : etoks (.mk 3 zeroV [] [a]) = sg [45] :: ptoks a := by simp [etoks, ptoks]
    have e3 : dep (.mk 3 zeroV [] [a]) = 1 + dep a := by simp [dep]
    have e4 : cnt (.mk 3 zeroV [] [a]) = 1 + cnt a := by simp [cnt]
    have hB : RdB W (.mk 3 zeroV [] [a]) := by
      intro p d R hd hm hR hp
      rw [e1] at hp
      rw [e3] at hd ⊢
      rw [e4] at hm ⊢
      have hp2 : On p (sg [45] :: (ptoks a ++ R)) := hp
      have hda := dep_pos a
      obtain ⟨q, g1, g2, g3⟩ := ih.1 p.adv d R (by omega) (by show p.md + _ ≤ _; omega) hp2.adv
      have g3' : q.md = p.md + (cnt a : Nat) := g3
      have hpf : ∀ f, 20 * dep a + 21 ≤ f → prefixF W f p d = (.mk 3 zeroV [] [a], { q with md := q.md + 1 }) := fun f hf => by
        obtain ⟨f', rfl⟩ : ∃ f', f = f' + 1 := ⟨f - 1, by omega⟩
        unfold prefixF
        rw [if_pos hp2.e, if_pos (by rw [hp2.is_]; rfl), g1 f' (by omega)]
        simp only
        rw [made_ok (N := 0) (by rw [g3']; omega)]
      refine ⟨{ q with md := q.md + 1 }, fun f hf => rdB_prefix hp2 (by omega) (by rw [hp2.is_]; rfl) hR hpf (g2.md _) f (by omega), g2.md _, ?_⟩
      show q.md + 1 = _
      rw [g3']
      omega
    exact ⟨rdA_of (by simp [Ex.kids]) hB, hB⟩
  | bin o a b h4 h15 ha hb iha ihb =>
    have e1 : etoks (.mk o zeroV [] [a, b]) = ptoks a ++ tokE o :: ptoks b := by simp [etoks, ptoks]
    have e3 : dep (.mk o zeroV [] [a, b]) = 1 + max (dep a) (dep b) := by simp [dep]
    have e4 : cnt (.mk o zeroV [] [a, b]) = 1 + cnt a + cnt b := by simp [cnt]
    have hB : RdB W (.mk o zeroV [] [a, b]) := by
      intro p d R hd hm hR hp
      rw [e1] at hp
      rw [e3] at hd ⊢
      rw [e4] at hm ⊢
      have hda := dep_pos a
      have hmx1 : dep a ≤ max (dep a) (dep b) := Nat.le_max_left _ _
      have hmx2 : dep b ≤ max (dep a) (dep b) := Nat.le_max_right _ _
      have hp2 : On p (ptoks a ++ (tokE o :: (ptoks b ++ R))) := by simpa using hp
      obtain ⟨q1, g1, g2, g3⟩ := iha.1 p d _ (by omega) (by omega) hp2
      obtain ⟨q2, k1, k2, k3⟩ := ihb.1 q1.adv d R (by omega) (by show q1.md + _ ≤ _; rw [g3]; omega) g2.adv
      have k3' : q2.md = p.md + (cnt a : Nat) + (cnt b : Nat) := by rw [k3]; show q1.md + _ = _; rw [g3]
      have hl := lvl_le (o := o)
      -- the chains of the two, above the operator's level
      have c1 : ∀ f, 20 * dep a + 21 + 2 * (4 - lvlE o) ≤ f → chainF W f p d (lvlE o + 1) = (a, q1) := lift (chain5 g1) (Nat.le_refl _) (4 - lvlE o) (lvlE o + 1) (by omega) fun j j1 j2 => oper_off h4 h15 g2 (by omega) (by omega)
      have c2 : ∀ f, 20 * dep b + 21 + 2 * (4 - lvlE o) ≤ f → chainF W f q1.adv d (lvlE o + 1) = (b, q2) := lift (chain5 k1) (Nat.le_refl _) (4 - lvlE o) (lvlE o + 1) (by omega) fun j _ _ => hR q2 k2 j
      have hmd : q2.made = { q2 with md := q2.md + 1 } := made_ok (N := 0) (by rw [k3']; omega)
      have c3 : ∀ f, 20 * max (dep a) (dep b) + 25 + 2 * (4 - lvlE o) ≤ f → chainF W f p d (lvlE o) = (.mk o zeroV [] [a, b], { q2 with md := q2.md + 1 }) := fun f hf => by
        obtain ⟨f', rfl⟩ : ∃ f', f = f' + 3 := ⟨f - 3, by omega⟩
        unfold chainF
        rw [if_neg (by omega), c1 (f' + 2) (by omega)]
        simp only
        unfold moreF
        rw [if_pos g2.e, oper_at h4 h15 g2]
        simp only
        rw [c2 (f' + 1) (by omega)]
        simp only
        rw [hmd]
        split
        · rfl
        · unfold moreF
          rw [if_pos k2.e, hR _ (k2.md _)]
      have hi : p.isS bIf = false := etoks_if hW ha hp2
      refine ⟨{ q2 with md := q2.md + 1 }, fun f hf => expr_chain hp2 (by omega) hi (lift c3 (by omega) (lvlE o) 0 (by omega) fun j _ _ => hR _ (k2.md _) j) f (by omega), k2.md _, ?_⟩
      show q2.md + 1 = _
      rw [k3']
      omega
    exact ⟨rdA_of (by simp [Ex.kids]) hB, hB⟩
  | not a h ih =>
    have e1 : etoks (.mk 16 zeroV [] [a]) = nm bNot :: sg [40] :: (etoks a ++ [sg [41]]) := by simp [etoks]
    have e3 : dep (.mk 16 zeroV [] [a]) = 1 + dep a := by simp [dep]
    have e4 : cnt (.mk 16 zeroV [] [a]) = 1 + cnt a := by simp [cnt]
    have hB : RdB W (.mk 16 zeroV [] [a]) := by
      intro p d R hd hm hR hp
      rw [e1] at hp
      rw [e3] at hd ⊢
      rw [e4] at hm ⊢
      have hp2 : On p (nm bNot :: sg [40] :: (etoks a ++ (sg [41] :: R))) := by simpa using hp
      obtain ⟨n1, n2⟩ := hp2.adv.need
      have hda := dep_pos a
      obtain ⟨q, g1, g2, g3⟩ := ih.2 p.adv.adv (d + 1) (sg [41] :: R) (by omega) (by show p.md + _ ≤ _; omega) (noop_close R) n2
      have g3' : q.md = p.md + (cnt a : Nat) := g3
      obtain ⟨m1, m2⟩ := g2.need
      have hpf : ∀ f, 20 * dep a + 16 ≤ f → prefixF W f p d = (.mk 16 zeroV [] [a], { q.adv with md := q.md + 1 }) := fun f hf => by
        obtain ⟨f', rfl⟩ : ∃ f', f = f' + 1 := ⟨f - 1, by omega⟩
        unfold prefixF
        rw [if_pos hp2.e, if_neg (by rw [hp2.is_]; decide), if_neg (by rw [hp2.is_]; decide), if_pos (by rw [hp2.is_]; rfl), n1, g1 f' (by omega)]
        simp only
        rw [m1, made_ok (N := 0) (by show q.md + _ ≤ _; rw [g3']; omega)]
        rfl
      refine ⟨{ q.adv with md := q.md + 1 }, fun f hf => rdB_prefix hp2 (by omega) (by rw [hp2.is_]; rfl) hR hpf (m2.md _) f (by omega), m2.md _, ?_⟩
      show q.md + 1 = _
      rw [g3']
      omega
    exact ⟨rdA_of (by simp [Ex.kids]) hB, hB⟩
  | ife a b c ha hb hc iha ihb ihc =>
    have e1 : etoks (.mk 17 zeroV [] [a, b, c]) = nm bIf :: (ptoks a ++ nm bThen :: (ptoks b ++ nm bElse :: ptoks c)) := by simp [etoks, ptoks]
    have e3 : dep (.mk 17 zeroV [] [a, b, c]) = 1 + max (dep a) (max (dep b) (dep c)) := by simp [dep]
    have e4 : cnt (.mk 17 zeroV [] [a, b, c]) = 1 + cnt a + cnt b + cnt c := by simp [cnt]
    have needn : ∀ {s : Bs} {q : PS} {T : List Tk}, On q (nm s :: T) → q.need s = q.adv ∧ On q.adv T := fun {s q T} h => by
      refine ⟨?_, h.adv⟩
      unfold PS.need
      rw [h.is_]
      simp [nm]
    have hB : RdB W (.mk 17 zeroV [] [a, b, c]) := by
      intro p d R hd hm hR hp
      rw [e1] at hp
      rw [e3] at hd ⊢
      rw [e4] at hm ⊢
      have hda := dep_pos a
      have hmx1 : dep a ≤ max (dep a) (max (dep b) (dep c)) := Nat.le_max_left _ _
      have hmx2 : dep b ≤ max (dep a) (max (dep b) (dep c)) := Nat.le_trans (Nat.le_max_left _ _) (Nat.le_max_right _ _)
      have hmx3 : dep c ≤ max (dep a) (max (dep b) (dep c)) := Nat.le_trans (Nat.le_max_right _ _) (Nat.le_max_right _ _)
      have hp2 : On p (nm bIf :: (ptoks a ++ (nm bThen :: (ptoks b ++ (nm bElse :: (ptoks c ++ R)))))) := by simpa using hp
      obtain ⟨q1, g1, g2, g3⟩ := part_expr hW ha iha.1 p.adv d _ (by omega) (by show p.md + _ ≤ _; omega) (noop_then _) hp2.adv
      have g3' : q1.md = p.md + (cnt a : Nat) := g3
      obtain ⟨n1, n2⟩ := needn g2
      obtain ⟨q2, k1, k2, k3⟩ := part_expr hW hb ihb.1 q1.adv d _ (by omega) (by show q1.md + _ ≤ _; rw [g3']; omega) (noop_else _) n2
      have k3' : q2.md = p.md + (cnt a : Nat) + (cnt b : Nat) := by rw [k3]; show q1.md + _ = _; rw [g3']
      obtain ⟨n3, n4⟩ := needn k2
      obtain ⟨q3, l1, l2, l3⟩ := part_expr hW hc ihc.1 q2.adv d _ (by omega) (by show q2.md + _ ≤ _; rw [k3']; omega) hR n4
      have l3' : q3.md = p.md + (cnt a : Nat) + (cnt b : Nat) + (cnt c : Nat) := by rw [l3]; show q2.md + _ = _; rw [k3']
      have hpd := hp2.deep (d := d) (by omega)
      refine ⟨{ q3 with md := q3.md + 1 }, fun f hf => ?_, l2.md _, ?_⟩
      · obtain ⟨f', rfl⟩ : ∃ f', f = f' + 1 := ⟨f - 1, by omega⟩
        unfold exprF
        rw [hpd, if_pos ⟨hp2.e, by rw [hp2.is_]; rfl⟩, g1 f' (by omega)]
        simp only
        rw [n1, k1 f' (by omega)]
        simp only
        rw [n3, l1 f' (by omega)]
        simp only
        rw [made_ok (N := 0) (by rw [l3']; omega)]
      · show q3.md + 1 = _
        rw [l3']
        omega
    exact ⟨rdA_of (by simp [Ex.kids]) hB, hB⟩
end Go.Proofs.YtkkeplmaphcblaaGreatDoor

namespace Go.Proofs.YtkkeplmaphcblaaGreatDoor
open Go.RowKit

def brT (k : List Ex) (l : Bs) : Bs := if k.isEmpty then l else 40 :: (l ++ [41])
/-- An expression as it is written. -/
noncomputable def etxt : Ex → Bs
  | .mk o v s [] => if o = 1 then vtxt v else s
  | .mk o _ _ [a] => if o = 3 then 45 :: brT a.kids (etxt a) else bNot ++ 40 :: (etxt a ++ [41])
  | .mk o _ _ [a, b] => brT a.kids (etxt a) ++ 32 :: (signE o ++ 32 :: brT b.kids (etxt b))
  | .mk _ _ _ (a :: b :: c :: _) => bIf ++ 32 :: (brT a.kids (etxt a) ++ 32 :: (bThen ++ 32 :: (brT b.kids (etxt b) ++ 32 :: (bElse ++ 32 :: brT c.kids (etxt c)))))
theorem let_all (c : UInt8) : letB c.toNat = lets.contains c := all_bytes (p := fun c => letB c.toNat = lets.contains c) (by decide +kernel) c
theorem nm_all (c : UInt8) : nmB c = (lets ++ figs).contains c := all_bytes (p := fun c => nmB c = (lets ++ figs).contains c) (by decide +kernel) c
theorem let_kind (c : UInt8) : lets.contains c = true → figs.contains c = false ∧ ¬ c = 34 ∧ ¬ c = 64 ∧ whites.contains c = false :=
  all_bytes (p := fun c => lets.contains c = true → figs.contains c = false ∧ ¬ c = 34 ∧ ¬ c = 64 ∧ whites.contains c = false) (by decide +kernel) c
theorem word_parts {s : Bs} (h : wordB s = true) : ∃ c r, s = c :: r ∧ lets.contains c = true ∧ s.length ≤ 32 ∧ (∀ d ∈ s, (lets ++ figs).contains d = true) ∧ wordsL.contains s = false := by
  unfold wordB at h
  rw [Bool.and_eq_true] at h
  obtain ⟨h1, h2⟩ := h
  match s, h1, h2 with
  | c :: r, h1, h2 =>
    unfold nameB at h1
    rw [Bool.and_eq_true, Bool.and_eq_true] at h1
    obtain ⟨⟨g1, g2⟩, g3⟩ := h1
    refine ⟨c, r, rfl, by rw [← let_all]; exact g2, of_decide_eq_true g1, fun d hd => ?_, by simpa using h2⟩
    rw [← nm_all]
    exact List.all_eq_true.1 g3 d hd
theorem word_ok : WOK wordB := fun s h => by
  obtain ⟨c, r, e, h1, h2, h3, h4⟩ := word_parts h
  have h5 : s ∉ wordsL := by
    intro hm
    have := List.contains_iff_mem.2 hm
    rw [h4] at this
    cases this
  unfold wordsL at h5
  simp only [List.mem_cons, List.not_mem_nil, or_false, not_or] at h5
  obtain ⟨a1, a2, a3, a4, a5, a6, a7, a8, a9⟩ := h5
  exact ⟨a1, a2, a3, a4, a5, a6, a7, a8, a9, h3⟩
theorem runS_of_all {S : Bs} : ∀ {l : Bs}, (∀ d ∈ l, S.contains d = true) → runS S l = l.length
  | [], _ => rfl
  | c :: r, h => by
    rw [runS_cons, if_pos (h c (List.mem_cons_self ..)), runS_of_all fun d hd => h d (List.mem_cons_of_mem _ hd)]
    rfl
theorem word_next {s : Bs} (h : wordB s = true) (x : Lx) : nextS x s = ⟨nm s, s.length, 0⟩ ∧ runS whites s = 0 := by
  obtain ⟨c, r, e, h1, h2, h3, h4⟩ := word_parts h
  obtain ⟨f1, f2, f3, f4⟩ := let_kind c h1
  have hr := runS_of_all h3
  subst e
  refine ⟨?_, ?_⟩
  · unfold nextS
    simp only
    rw [if_neg (by rw [f1]; decide), if_neg f2, if_neg f3, if_pos h1]
    unfold nameS
    rw [hr, if_neg (by omega), List.take_length]
    rfl
  · rw [runS_cons, if_neg (by rw [f4]; decide)]
theorem tokE_next {o : Int} (h4 : 4 ≤ o) (h15 : o ≤ 15) (x : Lx) : nextS x (signE o) = ⟨tokE o, (signE o).length, 0⟩ ∧ runS whites (signE o) = 0 :=
  op_cases h4 h15 (fun o => nextS x (signE o) = ⟨tokE o, (signE o).length, 0⟩ ∧ runS whites (signE o) = 0) ⟨rfl, rfl⟩ ⟨rfl, rfl⟩ ⟨rfl, rfl⟩ ⟨rfl, rfl⟩ ⟨rfl, rfl⟩ ⟨rfl, rfl⟩ ⟨rfl, rfl⟩ ⟨rfl, rfl⟩ ⟨rfl, rfl⟩ ⟨rfl, rfl⟩ ⟨rfl, rfl⟩ ⟨rfl, rfl⟩
/-- What is written, followed by what ends a token. -/
def RdT (m : Int) (x : Ex) : Prop := ∀ {M : Bs} {T : List Tk}, Stop M → Reads (lxX m) M T → Reads (lxX m) (etxt x ++ M) (etoks x ++ T)
theorem reads_part {m : Int} {x : Ex} (h : RdT m x) {M : Bs} {T : List Tk} (hM : Stop M) (hT : Reads (lxX m) M T) : Reads (lxX m) (brT x.kids (etxt x) ++ M) (br x.kids (etoks x) ++ T) := by
  unfold brT br
  split
  · exact h hM hT
  · have := reads_open (h (stop41 M) (reads_close hT))
    simpa using this
theorem reads_ex (m : Int) (w : World) (hw : OKW m w) {x : Ex} (hx : ES wordB x) : RdT m x := by
  induction hx with
  | val v h h0 =>
    intro M T hM hT
    have e1 : etxt (.mk 1 v [] []) = vtxt v := by simp [etxt]
    have e2 : etoks (.mk 1 v [] []) = vtoks v := by simp [etoks]
    rw [e1, e2]
    exact reads_val m w hw h hM hT
  | name s h =>
    intro M T hM hT
    have e1 : etxt (.mk 2 zeroV s []) = s := by simp [etxt]
    have e2 : etoks (.mk 2 zeroV s []) = [nm s] := by simp [etoks]
    rw [e1, e2]
    obtain ⟨g1, g2⟩ := word_next h (lxX m)
    exact reads_tok g1 g2 hM hT
  | neg a h ih =>
    intro M T hM hT
    have e1 : etxt (.mk 3 zeroV [] [a]) = 45 :: brT a.kids (etxt a) := by simp [etxt]
    have e2 : etoks (.mk 3 zeroV [] [a]) = sg [45] :: br a.kids (etoks a) := by simp [etoks]
    rw [e1, e2]
    exact reads_minus (reads_part ih hM hT)
  | bin o a b h4 h15 ha hb iha ihb =>
    intro M T hM hT
    have e1 : etxt (.mk o zeroV [] [a, b]) ++ M = brT a.kids (etxt a) ++ (32 :: (signE o ++ (32 :: (brT b.kids (etxt b) ++ M)))) := by simp [etxt]
    have e2 : etoks (.mk o zeroV [] [a, b]) ++ T = br a.kids (etoks a) ++ (tokE o :: (br b.kids (etoks b) ++ T)) := by simp [etoks]
    rw [e1, e2]
    obtain ⟨g1, g2⟩ := tokE_next h4 h15 (lxX m)
    exact reads_part iha (stop32 _) (reads_blank (reads_tok g1 g2 (stop32 _) (reads_blank (reads_part ihb hM hT))))
  | not a h ih =>
    intro M T hM hT
    have e1 : etxt (.mk 16 zeroV [] [a]) ++ M = bNot ++ (40 :: (etxt a ++ (41 :: M))) := by simp [etxt]
    have e2 : etoks (.mk 16 zeroV [] [a]) ++ T = nm bNot :: (sg [40] :: (etoks a ++ (sg [41] :: T))) := by simp [etoks]
    rw [e1, e2]
    exact reads_tok (o := bNot) (t := nm bNot) rfl rfl (stop_of rfl (by decide) (by decide)) (reads_open (ih (stop41 M) (reads_close hT)))
  | ife a b c ha hb hc iha ihb ihc =>
    intro M T hM hT
    have e1 : etxt (.mk 17 zeroV [] [a, b, c]) ++ M = bIf ++ (32 :: (brT a.kids (etxt a) ++ (32 :: (bThen ++ (32 :: (brT b.kids (etxt b) ++ (32 :: (bElse ++ (32 :: (brT c.kids (etxt c) ++ M))))))))))  := by simp [etxt]
    have e2 : etoks (.mk 17 zeroV [] [a, b, c]) ++ T = nm bIf :: (br a.kids (etoks a) ++ (nm bThen :: (br b.kids (etoks b) ++ (nm bElse :: (br c.kids (etoks c) ++ T))))) := by simp [etoks]
    rw [e1, e2]
    exact reads_tok (o := bIf) (t := nm bIf) rfl rfl (stop32 _) (reads_blank (reads_part iha (stop32 _) (reads_blank (reads_tok (o := bThen) (t := nm bThen) rfl rfl (stop32 _) (reads_blank (reads_part ihb (stop32 _) (reads_blank (reads_tok (o := bElse) (t := nm bElse) rfl rfl (stop32 _) (reads_blank (reads_part ihc hM hT))))))))))

/-- All tokens have to be taken, and the expression has to be one that is not too deep. -/
def outE (x : Ex) (p : PS) (ok : Bool) : Ex × Int × Int := if p.fin.e = 0 then (if ok = true then (x, 0, 0) else (zeroE, 0, 9)) else (zeroE, p.fin.a, p.fin.e)
theorem exback_toks {m : Int} {w : World} (hw : OKW m w) {x : Ex} (hx : ES wordB x) (hd : dep x ≤ 64) (hc : cnt x ≤ 4096) (hl : (etxt x).length ≤ 65536) {F : Nat} (hF : 20 * dep x + 15 ≤ F) :
    ∃ q, exprF wordB F (newP (toksS (lxX m) (etxt x)) (etxt x).length) 1 = (x, q) ∧ q.fin = q ∧ q.e = 0 := by
  have hR := reads_ex m w hw hx (M := []) (T := []) (.inl rfl) (reads_nil _)
  rw [List.append_nil, List.append_nil] at hR
  obtain ⟨T', h1, h2⟩ := hR 0 []
  have h3 : toksS (lxX m) (etxt x) = ⟨T', 0, 0⟩ := by
    unfold toksS
    rw [if_neg (by omega)]
    have : toksF (lxX m) 0 (etxt x) [] = toksA (lxX m) ((etxt x).length + 1) 0 (etxt x) [] := rfl
    rw [← this, h1]
    rfl
  rw [h3]
  have hon : On (newP ⟨T', 0, 0⟩ (etxt x).length) (etoks x ++ []) := ⟨rfl, Nat.zero_le _, by rw [List.append_nil]; exact h2⟩
  obtain ⟨q, g1, g2, g3⟩ := (rd_all word_ok hx).2 (newP ⟨T', 0, 0⟩ (etxt x).length) 1 [] (by omega) (by show (0 : Int) + _ ≤ _; omega) noop_nil hon
  exact ⟨q, g1 F hF, fin_of g2.e g2.end_, g2.e⟩
end Go.Proofs.YtkkeplmaphcblaaGreatDoor

namespace Go.Proofs.YtkkeplmaphcblaaGreatDoor
open Go.RowKit

/-- No more parts than tokens that are taken. -/
structure Inv (c : Int) (p : PS) : Prop where
  md : p.md + c ≤ p.nx
  le : p.nx ≤ p.L.length
section
variable {c : Int} {p : PS} {W : Bs → Bool}
theorem fail_p (p : PS) (k : Int) : (p.fail k).md = p.md ∧ (p.fail k).nx = p.nx ∧ (p.fail k).L = p.L ∧ (p.fail k).en = p.en := by
  unfold PS.fail
  split <;> exact ⟨rfl, rfl, rfl, rfl⟩
theorem Inv.fail (h : Inv c p) (k : Int) : Inv c (p.fail k) := by
  obtain ⟨h1, h2, h3, _⟩ := fail_p p k
  exact ⟨by rw [h1, h2]; exact h.md, by rw [h2, h3]; exact h.le⟩
theorem Inv.adv (h : Inv c p) (hn : p.nx < p.L.length) : Inv (c + 1) p.adv := ⟨by have := h.md; show p.md + (c + 1) ≤ ((p.nx + 1 : Nat) : Int); omega, hn⟩
theorem Inv.less (h : Inv (c + 1) p) : Inv c p := ⟨by have := h.md; omega, h.le⟩
theorem Inv.need (h : Inv c p) (s : Bs) : Inv c (p.need s) ∧ (p.need s).L = p.L := by
  unfold PS.need
  split
  · rename_i hs
    exact ⟨(h.adv (isS_lt hs).2).less, rfl⟩
  · exact ⟨h.fail 5, (fail_p p 5).2.2.1⟩
theorem made_L (p : PS) : p.made.L = p.L := by
  unfold PS.made
  split
  · exact (fail_p _ _).2.2.1
  · rfl
theorem made_nx (p : PS) : p.made.nx = p.nx := by
  unfold PS.made
  split
  · exact (fail_p _ _).2.1
  · rfl
theorem made_md (p : PS) : p.made.md = p.md + 1 := by
  unfold PS.made
  split
  · exact (fail_p _ _).1
  · rfl
theorem Inv.made (h : Inv (c + 1) p) : Inv c p.made := ⟨by rw [made_md, made_nx]; have := h.md; omega, by rw [made_nx, made_L]; exact h.le⟩
theorem Inv.deep (h : Inv c p) (d : Nat) : Inv c (p.deep d) ∧ (p.deep d).L = p.L := by
  unfold PS.deep
  split
  · exact ⟨h.fail 9, (fail_p p 9).2.2.1⟩
  · exact ⟨h, rfl⟩
theorem oper_lt {n : Nat} {o : Int} (h : p.oper n = some o) : p.e = 0 ∧ p.nx < p.L.length := by
  unfold PS.oper at h
  cases hf : (levelS n).1.find? (fun g => p.isS g.1) with
  | none => rw [hf] at h; cases h
  | some g => exact isS_lt (s := g.1) (List.find?_some (p := fun g : Bs × Int => p.isS g.1) hf)
theorem val_lt {v : Vl} (h : p.val = some v) : p.e = 0 ∧ p.nx < p.L.length := by
  unfold PS.val at h
  split at h
  · rename_i he
    refine ⟨he, ?_⟩
    split at h
    · cases h
    · rename_i t ht
      exact (List.getElem?_eq_some_iff.1 ht).1
  · cases h
theorem inv_all (W : Bs → Bool) : ∀ f,
    (∀ (p : PS) (d : Nat) (c : Int), Inv c p → Inv c (exprF W f p d).2 ∧ (exprF W f p d).2.L = p.L) ∧
    (∀ (p : PS) (d n : Nat) (c : Int), Inv c p → Inv c (chainF W f p d n).2 ∧ (chainF W f p d n).2.L = p.L) ∧
    (∀ (x : Ex) (p : PS) (d n : Nat) (c : Int), Inv c p → Inv c (moreF W f x p d n).2 ∧ (moreF W f x p d n).2.L = p.L) ∧
    (∀ (p : PS) (d : Nat) (c : Int), Inv c p → Inv c (prefixF W f p d).2 ∧ (prefixF W f p d).2.L = p.L)
  | 0 => by
    refine ⟨fun p d c h => ?_, fun p d n c h => ?_, fun x p d n c h => ?_, fun p d c h => ?_⟩
    · unfold exprF; exact ⟨h, rfl⟩
    · unfold chainF; exact ⟨h, rfl⟩
    · unfold moreF; exact ⟨h, rfl⟩
    · unfold prefixF; exact ⟨h, rfl⟩
  | f + 1 => by
    obtain ⟨hE, hC, hM, hP⟩ := inv_all W f
    refine ⟨fun p d c h => ?_, fun p d n c h => ?_, fun x p d n c h => ?_, fun p d c h => ?_⟩
    · obtain ⟨h1, h2⟩ := h.deep d
      unfold exprF
      split
      · rename_i hc
        obtain ⟨a1, a2⟩ := hE (p.deep d).adv d (c + 1) (h1.adv (isS_lt hc.2).2)
        obtain ⟨b1, b2⟩ := a1.need bThen
        obtain ⟨c1, c2⟩ := hE _ d (c + 1) b1
        obtain ⟨d1, d2⟩ := c1.need bElse
        obtain ⟨e1, e2⟩ := hE _ d (c + 1) d1
        refine ⟨e1.made, ?_⟩
        dsimp only
        rw [made_L, e2, d2, c2, b2, a2]
        exact h2
      · obtain ⟨a1, a2⟩ := hC (p.deep d) d 0 c h1
        exact ⟨a1, a2.trans h2⟩
    · unfold chainF
      split
      · exact hP p d c h
      · obtain ⟨a1, a2⟩ := hC p d (n + 1) c h
        obtain ⟨b1, b2⟩ := hM _ _ d n c a1
        exact ⟨b1, b2.trans a2⟩
    · unfold moreF
      split
      · split
        · exact ⟨h, rfl⟩
        · rename_i o ho
          obtain ⟨a1, a2⟩ := hC p.adv d (n + 1) (c + 1) (h.adv (oper_lt ho).2)
          dsimp only
          split
          · exact ⟨a1.made, by dsimp only; rw [made_L, a2]; rfl⟩
          · obtain ⟨b1, b2⟩ := hM (.mk o zeroV [] [x, (chainF W f p.adv d (n + 1)).1]) _ d n c a1.made
            exact ⟨b1, by rw [b2, made_L, a2]; rfl⟩
      · exact ⟨h, rfl⟩
    · unfold prefixF
      split
      · split
        · rename_i hs
          obtain ⟨a1, a2⟩ := hP p.adv d (c + 1) (h.adv (isS_lt hs).2)
          exact ⟨a1.made, by dsimp only; rw [made_L, a2]; rfl⟩
        · split
          · rename_i hs
            obtain ⟨a1, a2⟩ := hE p.adv (d + 1) c (h.adv (isS_lt hs).2).less
            obtain ⟨b1, b2⟩ := a1.need [41]
            exact ⟨b1, by dsimp only; rw [b2, a2]; rfl⟩
          · split
            · rename_i hs
              obtain ⟨z1, z2⟩ := (h.adv (isS_lt hs).2).need [40]
              obtain ⟨a1, a2⟩ := hE (p.adv.need [40]) (d + 1) (c + 1) z1
              obtain ⟨b1, b2⟩ := a1.need [41]
              exact ⟨b1.made, by dsimp only; rw [made_L, b2, a2, z2]; rfl⟩
            · split
              · rename_i v hv
                exact ⟨(h.adv (val_lt hv).2).made, by dsimp only; rw [made_L]; rfl⟩
              · split
                · exact ⟨h.fail 5, (fail_p p 5).2.2.1⟩
                · rename_i t ht
                  split
                  · have hn := (List.getElem?_eq_some_iff.1 ht).1
                    refine ⟨⟨?_, ?_⟩, ?_⟩
                    · show p.made.md + c ≤ ((p.made.nx + 1 : Nat) : Int)
                      rw [made_md, made_nx]
                      have := h.md
                      omega
                    · show p.made.nx + 1 ≤ p.made.L.length
                      rw [made_nx, made_L]
                      exact hn
                    · show p.made.L = p.L
                      exact made_L p
                  · exact ⟨h.fail 5, (fail_p p 5).2.2.1⟩
      · exact ⟨h, rfl⟩

/-- What is wrong stays wrong. -/
theorem fail_stay (h : ¬ p.e = 0) (k : Int) : (p.fail k).e = p.e := by unfold PS.fail; rw [if_neg h]
theorem made_stay (h : ¬ p.e = 0) : p.made.e = p.e := by
  unfold PS.made
  split
  · exact fail_stay (p := { p with md := p.md + 1 }) h 10
  · rfl
theorem need_stay (h : ¬ p.e = 0) (s : Bs) : (p.need s).e = p.e := by
  unfold PS.need
  rw [isS_err h]
  exact fail_stay h 5
theorem deep_stay (h : ¬ p.e = 0) (d : Nat) : (p.deep d).e = p.e := by
  unfold PS.deep
  split
  · exact fail_stay h 9
  · rfl
theorem stuck (W : Bs → Bool) : ∀ f,
    (∀ (p : PS) (d : Nat), ¬ p.e = 0 → (exprF W f p d).2.e = p.e) ∧
    (∀ (p : PS) (d n : Nat), ¬ p.e = 0 → (chainF W f p d n).2.e = p.e) ∧
    (∀ (x : Ex) (p : PS) (d n : Nat), ¬ p.e = 0 → (moreF W f x p d n).2.e = p.e) ∧
    (∀ (p : PS) (d : Nat), ¬ p.e = 0 → (prefixF W f p d).2.e = p.e)
  | 0 => by
    refine ⟨fun p d h => ?_, fun p d n h => ?_, fun x p d n h => ?_, fun p d h => ?_⟩
    · unfold exprF; rfl
    · unfold chainF; rfl
    · unfold moreF; rfl
    · unfold prefixF; rfl
  | f + 1 => by
    obtain ⟨hE, hC, hM, hP⟩ := stuck W f
    refine ⟨fun p d h => ?_, fun p d n h => ?_, fun x p d n h => ?_, fun p d h => ?_⟩
    · have h1 := deep_stay h d
      unfold exprF
      rw [if_neg (by rw [h1]; exact fun g => h g.1), hC _ d 0 (by rw [h1]; exact h), h1]
    · unfold chainF
      split
      · exact hP p d h
      · have h1 := hC p d (n + 1) h
        dsimp only
        rw [hM _ _ d n (by rw [h1]; exact h), h1]
    · unfold moreF
      rw [if_neg h]
    · unfold prefixF
      rw [if_neg h]

/-- The second parser goes through the same tokens, k behind, with a bracket after them, and has made z parts more. -/
structure Sm (k : Nat) (z : Int) (p q : PS) : Prop where
  e : p.e = 0
  e' : q.e = 0
  nx : q.nx = p.nx + k
  le : p.nx ≤ p.L.length
  inn : ∀ i t, p.L[i]? = some t → ∃ u, q.L[i + k]? = some u ∧ u.k = t.k ∧ u.t = t.t ∧ u.n = t.n ∧ u.s = t.s ∧ u.m = t.m
  fin : ∃ u, q.L[p.L.length + k]? = some u ∧ u.k = 5 ∧ u.t = [41]
  md : q.md = p.md + z
  room : p.md ≤ p.nx
  big : (p.L.length : Int) + z + 1 ≤ 4096
  pos : (p.L.length : Int) + 1 ≤ 4096
end
section
variable {k : Nat} {z : Int} {p q : PS} {W : Bs → Bool}
theorem Sm.at_end (h : Sm k z p q) (hn : ¬ p.nx < p.L.length) : p.L[p.nx]? = none ∧ ∃ u, q.L[q.nx]? = some u ∧ u.k = 5 ∧ u.t = [41] := by
  have : p.nx = p.L.length := by have := h.le; omega
  refine ⟨List.getElem?_eq_none (by omega), ?_⟩
  rw [h.nx, this]
  exact h.fin
theorem Sm.at_in (h : Sm k z p q) (hn : p.nx < p.L.length) : ∃ t u, p.L[p.nx]? = some t ∧ q.L[q.nx]? = some u ∧ u.k = t.k ∧ u.t = t.t ∧ u.n = t.n ∧ u.s = t.s ∧ u.m = t.m := by
  obtain ⟨u, hu⟩ := h.inn p.nx _ (List.getElem?_eq_getElem hn)
  exact ⟨_, u, List.getElem?_eq_getElem hn, by rw [h.nx]; exact hu.1, hu.2⟩
theorem Sm.is_ (h : Sm k z p q) {s : Bs} (hs : s ≠ [41]) : q.isS s = p.isS s := by
  by_cases hn : p.nx < p.L.length
  · obtain ⟨t, u, ht, hu, e1, e2, _⟩ := h.at_in hn
    rw [isS_some h.e ht, isS_some h.e' hu, e1, e2]
  · obtain ⟨h1, u, hu, e1, e2⟩ := h.at_end hn
    rw [isS_none h1, isS_some h.e' hu, e1, e2]
    have : (([41] : Bs) == s) = false := by simpa using fun e => hs e.symm
    rw [this, Bool.and_false]
theorem Sm.is_in (h : Sm k z p q) (hn : p.nx < p.L.length) (s : Bs) : q.isS s = p.isS s := by
  obtain ⟨t, u, ht, hu, e1, e2, _⟩ := h.at_in hn
  rw [isS_some h.e ht, isS_some h.e' hu, e1, e2]
theorem Sm.oper (h : Sm k z p q) (n : Nat) : q.oper n = p.oper n := by
  unfold PS.oper
  have : (levelS n).1.find? (fun g => q.isS g.1) = (levelS n).1.find? (fun g => p.isS g.1) := by
    have hne : ∀ g ∈ (levelS n).1, g.1 ≠ [41] := lev_cases (fun n => ∀ g ∈ (levelS n).1, g.1 ≠ [41]) (by decide) (by decide) (by decide) (by decide) (fun n => by show ∀ g ∈ (levelS 4).1, g.1 ≠ [41]; decide) n
    generalize (levelS n).1 = l at hne ⊢
    induction l with
    | nil => rfl
    | cons g r ih =>
      rw [List.find?_cons, List.find?_cons, h.is_ (hne g (List.mem_cons_self ..)), ih fun g hg => hne g (List.mem_cons_of_mem _ hg)]
  rw [this]
theorem Sm.adv (h : Sm k z p q) (hn : p.nx < p.L.length) : Sm k z p.adv q.adv :=
  ⟨h.e, h.e', by show q.nx + 1 = p.nx + 1 + k; rw [h.nx]; omega, hn, h.inn, h.fin, h.md, by have := h.room; show p.md ≤ ((p.nx + 1 : Nat) : Int); omega, h.big, h.pos⟩
theorem Sm.need (h : Sm k z p q) {s : Bs} (he : (p.need s).e = 0) : Sm k z (p.need s) (q.need s) := by
  unfold PS.need at he ⊢
  by_cases hs : p.isS s = true
  · have hn := (isS_lt hs).2
    rw [if_pos hs, if_pos (by rw [h.is_in hn]; exact hs)]
    exact h.adv hn
  · rw [if_neg hs] at he
    exact absurd he (fail_e (by decide))
theorem Sm.val (h : Sm k z p q) : q.val = p.val := by
  unfold PS.val
  rw [if_pos h.e, if_pos h.e']
  by_cases hn : p.nx < p.L.length
  · obtain ⟨t, u, ht, hu, e1, e2, e3, e4, e5⟩ := h.at_in hn
    rw [ht, hu]
    simp only
    unfold valT
    rw [e1, e2, e3, e4, e5]
  · obtain ⟨h1, u, hu, e1, e2⟩ := h.at_end hn
    rw [h1, hu]
    simp only
    unfold valT
    rw [e1, e2]
    rfl
theorem Sm.made (h : Sm k z p q) (hr : p.md + 1 ≤ p.nx) : Sm k z p.made q.made ∧ p.made = { p with md := p.md + 1 } := by
  have h1 := h.big
  have h2 := h.md
  have h3 := h.le
  have e1 : p.made = { p with md := p.md + 1 } := by unfold PS.made; rw [if_neg (by have := h.pos; omega)]
  have e2 : q.made = { q with md := q.md + 1 } := by unfold PS.made; rw [if_neg (by omega)]
  refine ⟨?_, e1⟩
  rw [e1, e2]
  exact ⟨h.e, h.e', h.nx, h.le, h.inn, h.fin, by show q.md + 1 = p.md + 1 + z; omega, hr, h.big, h.pos⟩
/-- Alike, or the second one is too deep. -/
def Sme (k : Nat) (z : Int) (r r' : Ex × PS) : Prop := (r'.1 = r.1 ∧ Sm k z r.2 r'.2) ∨ r'.2.e = 9
end
end Go.Proofs.YtkkeplmaphcblaaGreatDoor

namespace Go.Proofs.YtkkeplmaphcblaaGreatDoor
open Go.RowKit

section
variable {k : Nat} {z : Int} {p q : PS} {W : Bs → Bool} {f d n : Nat} {x : Ex} {s : Bs}
theorem zero_made (h : p.made.e = 0) : p.e = 0 := Classical.byContradiction fun hn => hn ((made_stay hn).symm.trans h)
theorem zero_need (h : (p.need s).e = 0) : p.e = 0 := Classical.byContradiction fun hn => hn ((need_stay hn s).symm.trans h)
theorem zero_expr (h : (exprF W f p d).2.e = 0) : p.e = 0 := Classical.byContradiction fun hn => hn (((stuck W f).1 p d hn).symm.trans h)
theorem zero_chain (h : (chainF W f p d n).2.e = 0) : p.e = 0 := Classical.byContradiction fun hn => hn (((stuck W f).2.1 p d n hn).symm.trans h)
theorem zero_more (h : (moreF W f x p d n).2.e = 0) : p.e = 0 := Classical.byContradiction fun hn => hn (((stuck W f).2.2.1 x p d n hn).symm.trans h)
theorem nine_ne (h : p.e = 9) : ¬ p.e = 0 := by rw [h]; decide
theorem nine_made (h : p.e = 9) : p.made.e = 9 := (made_stay (nine_ne h)).trans h
theorem nine_need (h : p.e = 9) : (p.need s).e = 9 := (need_stay (nine_ne h) s).trans h
theorem nine_expr (h : p.e = 9) : (exprF W f p d).2.e = 9 := ((stuck W f).1 p d (nine_ne h)).trans h
theorem nine_chain (h : p.e = 9) : (chainF W f p d n).2.e = 9 := ((stuck W f).2.1 p d n (nine_ne h)).trans h
theorem nine_more (h : p.e = 9) : (moreF W f x p d n).2.e = 9 := ((stuck W f).2.2.1 x p d n (nine_ne h)).trans h
theorem Sm.inv (h : Sm k z p q) (hn : p.nx < p.L.length) : Inv 1 p.adv := ⟨by have := h.room; show p.md + 1 ≤ ((p.nx + 1 : Nat) : Int); omega, hn⟩

theorem sim_all (W : Bs → Bool) : ∀ f,
    (∀ (p q : PS) (d : Nat), Sm k z p q → (exprF W f p d).2.e = 0 → Sme k z (exprF W f p d) (exprF W f q (d + 1))) ∧
    (∀ (p q : PS) (d n : Nat), Sm k z p q → (chainF W f p d n).2.e = 0 → Sme k z (chainF W f p d n) (chainF W f q (d + 1) n)) ∧
    (∀ (x : Ex) (p q : PS) (d n : Nat), Sm k z p q → (moreF W f x p d n).2.e = 0 → Sme k z (moreF W f x p d n) (moreF W f x q (d + 1) n)) ∧
    (∀ (p q : PS) (d : Nat), Sm k z p q → (prefixF W f p d).2.e = 0 → Sme k z (prefixF W f p d) (prefixF W f q (d + 1)))
  | 0 => by
    refine ⟨fun p q d h he => ?_, fun p q d n h he => ?_, fun x p q d n h he => ?_, fun p q d h he => ?_⟩
    · unfold exprF; exact .inl ⟨rfl, h⟩
    · unfold chainF; exact .inl ⟨rfl, h⟩
    · unfold moreF; exact .inl ⟨rfl, h⟩
    · unfold prefixF; exact .inl ⟨rfl, h⟩
  | f + 1 => by
    obtain ⟨hE, hC, hM, hP⟩ := sim_all W f
    obtain ⟨iE, iC, iM, iP⟩ := inv_all W f
    refine ⟨fun p q d h he => ?_, fun p q d n h he => ?_, fun x p q d n h he => ?_, fun p q d h he => ?_⟩
    · unfold exprF at he ⊢
      by_cases hd : 64 < d
      · have h1 : ¬ (p.deep d).e = 0 := by unfold PS.deep; rw [if_pos hd]; exact fail_e (by decide)
        rw [if_neg (fun g => h1 g.1)] at he
        exact absurd (zero_chain he) h1
      · have e1 : p.deep d = p := by unfold PS.deep; rw [if_neg hd]
        rw [e1] at he ⊢
        by_cases hd2 : 64 < d + 1
        · right
          have e2 : (q.deep (d + 1)).e = 9 := by unfold PS.deep; rw [if_pos hd2]; unfold PS.fail; rw [if_pos h.e']
          rw [if_neg (c := (q.deep (d + 1)).e = 0 ∧ (q.deep (d + 1)).isS bIf = true) (fun g => nine_ne e2 g.1)]
          exact nine_chain e2
        · have e2 : q.deep (d + 1) = q := by unfold PS.deep; rw [if_neg hd2]
          rw [e2]
          by_cases hc : p.isS bIf = true
          · have hn := (isS_lt hc).2
            rw [if_pos ⟨h.e, hc⟩] at he ⊢
            rw [if_pos ⟨h.e', by rw [h.is_ (by decide)]; exact hc⟩]
            dsimp only at he ⊢
            have z1 := zero_made he
            have z2 := zero_expr z1
            have z3 := zero_need z2
            have z4 := zero_expr z3
            have z5 := zero_need z4
            rcases hE p.adv q.adv d (h.adv hn) z5 with ⟨a1, a2⟩ | a9
            · have i1 := (iE p.adv d 1 (h.inv hn)).1
              have b0 := a2.need z4
              rcases hE _ _ d b0 z3 with ⟨b1, b2⟩ | b9
              · have i2 := (iE _ d 1 (i1.need bThen).1).1
                have c0 := b2.need z2
                rcases hE _ _ d c0 z1 with ⟨c1, c2⟩ | c9
                · have i3 := (iE _ d 1 (i2.need bElse).1).1
                  left
                  exact ⟨by rw [a1, b1, c1], (c2.made i3.md).1⟩
                · exact .inr (nine_made c9)
              · exact .inr (nine_made (nine_expr (nine_need b9)))
            · exact .inr (nine_made (nine_expr (nine_need (nine_expr (nine_need a9)))))
          · rw [if_neg (fun g => hc g.2)] at he ⊢
            rw [if_neg (fun g => hc (by rw [← h.is_ (by decide)]; exact g.2))]
            exact hC p q d 0 h he
    · unfold chainF at he ⊢
      split at he
      · rename_i hn
        rw [if_pos hn, if_pos hn]
        exact hP p q d h he
      · rename_i hn
        rw [if_neg hn, if_neg hn]
        dsimp only at he ⊢
        rcases hC p q d (n + 1) h (zero_more he) with ⟨a1, a2⟩ | a9
        · rw [a1]
          exact hM _ _ _ d n a2 he
        · exact .inr (nine_more a9)
    · unfold moreF at he ⊢
      rw [if_pos h.e] at he ⊢
      rw [if_pos h.e', h.oper]
      cases ho : p.oper n with
      | none => exact .inl ⟨rfl, h⟩
      | some o =>
        rw [ho] at he
        dsimp only at he ⊢
        have hn := (oper_lt ho).2
        have i1 := (iC p.adv d (n + 1) 1 (h.inv hn)).1
        by_cases hl : (levelS n).2 = true
        · rw [if_pos hl] at he ⊢
          rw [if_pos hl]
          dsimp only at he
          rcases hC p.adv q.adv d (n + 1) (h.adv hn) (zero_made he) with ⟨a1, a2⟩ | a9
          · exact .inl ⟨by rw [a1], (a2.made i1.md).1⟩
          · exact .inr (nine_made a9)
        · rw [if_neg hl] at he ⊢
          rw [if_neg hl]
          rcases hC p.adv q.adv d (n + 1) (h.adv hn) (zero_made (zero_more he)) with ⟨a1, a2⟩ | a9
          · rw [a1]
            exact hM _ _ _ d n (a2.made i1.md).1 he
          · exact .inr (nine_more (nine_made a9))
    · unfold prefixF at he ⊢
      rw [if_pos h.e] at he ⊢
      rw [if_pos h.e', h.is_ (s := [45]) (by decide), h.is_ (s := [40]) (by decide), h.is_ (s := bNot) (by decide), h.val]
      by_cases c1 : p.isS [45] = true
      · have hn := (isS_lt c1).2
        rw [if_pos c1] at he ⊢
        rw [if_pos c1]
        dsimp only at he ⊢
        have i1 := (iP p.adv d 1 (h.inv hn)).1
        rcases hP p.adv q.adv d (h.adv hn) (zero_made he) with ⟨a1, a2⟩ | a9
        · exact .inl ⟨by rw [a1], (a2.made i1.md).1⟩
        · exact .inr (nine_made a9)
      · rw [if_neg c1] at he ⊢
        rw [if_neg c1]
        by_cases c2 : p.isS [40] = true
        · have hn := (isS_lt c2).2
          rw [if_pos c2] at he ⊢
          rw [if_pos c2]
          dsimp only at he ⊢
          rcases hE p.adv q.adv (d + 1) (h.adv hn) (zero_need he) with ⟨a1, a2⟩ | a9
          · exact .inl ⟨a1, a2.need he⟩
          · exact .inr (nine_need a9)
        · rw [if_neg c2] at he ⊢
          rw [if_neg c2]
          by_cases c3 : p.isS bNot = true
          · have hn := (isS_lt c3).2
            rw [if_pos c3] at he ⊢
            rw [if_pos c3]
            dsimp only at he ⊢
            have z1 := zero_made he
            have z2 := zero_need z1
            have z3 := zero_expr z2
            have b0 := (h.adv hn).need z3
            have i1 := (iE _ (d + 1) 1 ((h.inv hn).need [40]).1).1
            rcases hE _ _ (d + 1) b0 z2 with ⟨a1, a2⟩ | a9
            · exact .inl ⟨by rw [a1], ((a2.need z1).made ((i1.need [41]).1).md).1⟩
            · exact .inr (nine_made (nine_need a9))
          · rw [if_neg c3] at he ⊢
            rw [if_neg c3]
            cases hv : p.val with
            | some v =>
              rw [hv] at he
              dsimp only at he ⊢
              have hn := (val_lt hv).2
              exact .inl ⟨rfl, ((h.adv hn).made (h.inv hn).md).1⟩
            | none =>
              rw [hv] at he
              dsimp only at he ⊢
              by_cases hn : p.nx < p.L.length
              · obtain ⟨t, u, ht, hu, e1, e2, _⟩ := h.at_in hn
                rw [ht] at he ⊢
                rw [hu]
                dsimp only at he ⊢
                rw [e1, e2]
                by_cases hw : t.k = 4 ∧ W t.t = true
                · rw [if_pos hw]
                  rw [if_pos hw]
                  have e3 : p.made.adv = p.adv.made := by
                    unfold PS.made PS.adv PS.fail PS.at'
                    have := h.room
                    have := h.big
                    have := h.pos
                    have := h.le
                    rw [if_neg (by omega), if_neg (by show ¬ 4096 < p.md + 1; omega)]
                  have e4 : q.made.adv = q.adv.made := by
                    unfold PS.made PS.adv PS.fail PS.at'
                    have := h.room
                    have := h.big
                    have := h.pos
                    have := h.le
                    have := h.md
                    rw [if_neg (by omega), if_neg (by show ¬ 4096 < q.md + 1; omega)]
                  rw [e3, e4]
                  exact .inl ⟨rfl, ((h.adv hn).made (h.inv hn).md).1⟩
                · rw [if_neg hw] at he
                  exact absurd he (fail_e (by decide))
              · obtain ⟨h1, _⟩ := h.at_end hn
                rw [h1] at he
                exact absurd he (fail_e (by decide))
end
end Go.Proofs.YtkkeplmaphcblaaGreatDoor

namespace Go.Proofs.YtkkeplmaphcblaaGreatDoor
open Go.RowKit

theorem like_app : ∀ {A A' B B' : List Tk}, like A A' → like B B' → like (A ++ B) (A' ++ B')
  | [], [], _, _, _, h => h
  | _ :: _, _ :: _, _, _, h1, h2 => ⟨h1.1, like_app h1.2 h2⟩
  | [], _ :: _, _, _, h, _ => h.elim
  | _ :: _, [], _, _, h, _ => h.elim
theorem like_drop : ∀ {A B C : List Tk}, like (A ++ B) C → like B (C.drop A.length)
  | [], _, _, h => h
  | _ :: A, _, _ :: C, h => like_drop (A := A) (C := C) h.2
  | _ :: _, _, [], h => h.elim
theorem like_get : ∀ {A B : List Tk} {i : Nat} {t : Tk}, like A B → A[i]? = some t → ∃ u, B[i]? = some u ∧ u.k = t.k ∧ u.t = t.t ∧ u.n = t.n ∧ u.s = t.s ∧ u.m = t.m
  | t :: A, u :: B, 0, _, h, e => by
    obtain rfl : t = _ := by simpa using e
    exact ⟨u, rfl, h.1⟩
  | _ :: A, _ :: B, i + 1, t, h, e => by
    obtain ⟨u, h1, h2⟩ := like_get (A := A) (B := B) (i := i) (t := t) h.2 (by simpa using e)
    exact ⟨u, by simpa using h1, h2⟩
  | [], _, i, t, _, e => by simp at e
  | _ :: _, [], _, _, h, _ => h.elim
theorem like_map (k : Nat) : ∀ (A : List Tk), like A (A.map (shiftT k))
  | [] => trivial
  | _ :: A => ⟨⟨rfl, rfl, rfl, rfl, rfl⟩, like_map k A⟩
/-- A text that is right has its tokens, wherever it stands. -/
theorem reads_cat {x : Lx} {s M : Bs} {T : List Tk} (hs : s.length ≤ 65536) (he : (toksS x s).e = 0) (hM : Stop M) (hw : runS whites M = 0) (h : Reads x M T) : Reads x (s ++ M) ((toksS x s).l ++ T) := fun a acc => by
  have h0 : toksA x (s.length + 1) 0 s [] = toksS x s := by unfold toksS; rw [if_neg (by omega)]
  have g1 := toks_shift x (s.length + 1) a s acc
  rw [h0, if_pos he] at g1
  have g2 : toksF x a s acc = ⟨acc ++ (toksS x s).l.map (shiftT a), 0, 0⟩ := g1
  have g3 := toks_cat x hM hw s.length s a acc (Nat.le_refl _) (by rw [g2])
  rw [g2] at g3
  obtain ⟨T', k1, k2⟩ := h (a + s.length) (acc ++ (toksS x s).l.map (shiftT a))
  refine ⟨(toksS x s).l.map (shiftT a) ++ T', ?_, like_app (like_map a _) k2⟩
  rw [g3]
  refine k1.trans ?_
  simp

theorem isS_take {p : PS} {s : Bs} {T : List Tk} (h : On p (sg s :: T)) : p.isS s = true := by rw [h.is_]; simp [sg]
/-- What stands between brackets. -/
theorem brk {W : Bs → Bool} {p q : PS} {f d : Nat} {R : List Tk} (hq : On q (sg [40] :: (p.L ++ sg [41] :: R))) (hp : p.e = 0) (hn : p.nx = 0) (hm : p.md = 0) (h0 : p.L.length ≤ 4000) (hb : (p.L.length : Int) + q.md + 1 ≤ 4096)
    (he : (exprF W f p d).2.e = 0) (hl : (exprF W f p d).2.nx = (exprF W f p d).2.L.length) :
    ∃ r : Ex × PS, prefixF W (f + 1) q d = r ∧ ((r.1 = (exprF W f p d).1 ∧ On r.2 R ∧ r.2.md ≤ q.md + p.L.length) ∨ r.2.e = 9) := by
  have ha := hq.adv
  have hinv : Inv 0 p := ⟨by rw [hm, hn]; decide, by rw [hn]; exact Nat.zero_le _⟩
  obtain ⟨i1, i2⟩ := (inv_all W f).1 p d 0 hinv
  have hlk := ha.lk
  have hget : ∀ i t, (p.L ++ sg [41] :: R)[i]? = some t → ∃ u, q.adv.L[i + q.adv.nx]? = some u ∧ u.k = t.k ∧ u.t = t.t ∧ u.n = t.n ∧ u.s = t.s ∧ u.m = t.m := fun i t ht => by
    obtain ⟨u, h1, h2⟩ := like_get hlk ht
    rw [List.getElem?_drop, Nat.add_comm] at h1
    exact ⟨u, h1, h2⟩
  have hsm : Sm q.adv.nx q.md p q.adv := {
    e := hp
    e' := ha.e
    nx := by rw [hn, Nat.zero_add]
    le := by rw [hn]; exact Nat.zero_le _
    inn := fun i t ht => hget i t (by rw [List.getElem?_append_left (List.getElem?_eq_some_iff.1 ht).1]; exact ht)
    fin := by
      obtain ⟨u, h1, h2, h3, _⟩ := hget p.L.length (sg [41]) (by rw [List.getElem?_append_right (Nat.le_refl _), Nat.sub_self]; rfl)
      exact ⟨u, h1, h2, h3⟩
    md := by rw [hm, Int.zero_add]; rfl
    room := by rw [hm, hn]; decide
    big := hb
    pos := by omega }
  refine ⟨_, rfl, ?_⟩
  unfold prefixF
  rw [if_pos hq.e, if_neg (by rw [hq.is_]; decide), if_pos (isS_take hq)]
  rcases (sim_all W f).1 p q.adv d hsm he with ⟨a1, a2⟩ | a9
  · left
    have hLq : (exprF W f q.adv (d + 1)).2.L = q.L := ((inv_all W f).1 q.adv (d + 1) ((q.adv.nx : Int) - q.adv.md) ⟨by omega, ha.le⟩).2
    have hon : On (exprF W f q.adv (d + 1)).2 (sg [41] :: R) := by
      refine ⟨a2.e', ?_, ?_⟩
      · obtain ⟨u, h1, _⟩ := a2.fin
        have := (List.getElem?_eq_some_iff.1 h1).1
        rw [a2.nx, hl]
        omega
      · rw [a2.nx, hl, hLq, i2, Nat.add_comm, ← List.drop_drop]
        exact like_drop hlk
    obtain ⟨n1, n2⟩ := hon.need
    dsimp only
    rw [n1]
    have hmd := a2.md
    have hroom := a2.room
    refine ⟨a1, n2, ?_⟩
    · show (exprF W f q.adv (d + 1)).2.md ≤ _
      rw [hmd]
      have h1 := i1.md
      have h2 := i1.le
      rw [i2] at h2
      omega
  · right
    exact nine_need a9

/-- One level up, with one amount of fuel. -/
theorem up1 {W : Bs → Bool} {p : PS} {f d n : Nat} {r : Ex × PS} (h : chainF W (f + 1) p d (n + 1) = r) (hn : n ≤ 4) (ho : r.2.e = 0 → r.2.oper n = none) : chainF W (f + 2) p d n = r := by
  unfold chainF
  rw [if_neg (by omega), h]
  dsimp only
  unfold moreF
  split
  · rename_i he
    rw [ho he]
  · rfl
theorem up5 {W : Bs → Bool} {p : PS} {f d : Nat} {r : Ex × PS} (h : prefixF W (f + 1) p d = r) : chainF W (f + 2) p d 5 = r := by
  unfold chainF
  rw [if_pos (by decide)]
  exact h
theorem upTo1 {W : Bs → Bool} {p : PS} {f d : Nat} {r : Ex × PS} (h : prefixF W (f + 1) p d = r) (ho : r.2.e = 0 → ∀ n, 1 ≤ n → n ≤ 4 → r.2.oper n = none) : chainF W (f + 6) p d 1 = r :=
  up1 (f := f + 4) (up1 (f := f + 3) (up1 (f := f + 2) (up1 (f := f + 1) (up5 h) (by decide) fun g => ho g 4 (by decide) (by decide)) (by decide) fun g => ho g 3 (by decide) (by decide)) (by decide) fun g => ho g 2 (by decide) (by decide)) (by decide) fun g => ho g 1 (by decide) (by decide)
theorem expr_of {W : Bs → Bool} {p : PS} {f : Nat} {R : List Tk} (hp : On p (sg [40] :: R)) : exprF W (f + 1) p 1 = chainF W f p 1 0 := by
  unfold exprF
  rw [hp.deep (d := 1) (by decide), if_neg (by rw [hp.is_]; exact fun h => Bool.noConfusion h.2)]

/-- What the expression of a text is. -/
def exprS (x : Lx) (F : Nat) (ok : Ex → Bool) (l : Bs) : Ex × Int × Int :=
  outE (exprF wordB F (newP (toksS x l) l.length) 1).1 (exprF wordB F (newP (toksS x l) l.length) 1).2 (ok (exprF wordB F (newP (toksS x l) l.length) 1).1)
theorem outE_ok {x : Ex} {p : PS} {ok : Bool} (h : (outE x p ok).2.2 = 0) : p.e = 0 ∧ p.nx = p.L.length ∧ ok = true ∧ outE x p ok = (x, 0, 0) := by
  unfold outE at h ⊢
  split at h
  · rename_i he
    obtain ⟨g1, g2⟩ := fin_ok he
    split at h
    · rename_i ho
      exact ⟨g1, g2, ho, by rw [if_pos he, if_pos ho]⟩
    · exact absurd (show (9 : Int) = 0 from h) (by decide)
  · rename_i he
    exact absurd h he
theorem outE_on {x : Ex} {p : PS} {ok : Bool} (h : On p []) : (outE x p ok).2.2 = 9 ∨ outE x p ok = (x, 0, 0) := by
  unfold outE
  rw [fin_of h.e h.end_, if_pos h.e]
  cases ok with
  | true => exact .inr rfl
  | false => exact .inl rfl
theorem outE_9 {x : Ex} {p : PS} {ok : Bool} (h : p.e = 9) : (outE x p ok).2.2 = 9 := by
  unfold outE
  have : p.fin = p := by
    unfold PS.fin
    rw [if_neg (fun g => nine_ne h g.1)]
  rw [this, if_neg (nine_ne h)]
  exact h
/-- What a right text is read as. -/
structure Rt (x : Lx) (f : Nat) (s : Bs) (e : Ex) : Prop where
  te : (toksS x s).e = 0
  fst : (exprF wordB f (newP (toksS x s) s.length) 1).1 = e
  e0 : (exprF wordB f (newP (toksS x s) s.length) 1).2.e = 0
  fin : (exprF wordB f (newP (toksS x s) s.length) 1).2.nx = (exprF wordB f (newP (toksS x s) s.length) 1).2.L.length
theorem rt_of {x : Lx} {f : Nat} {ok : Ex → Bool} {s : Bs} (h : (exprS x f ok s).2.2 = 0) : Rt x f s (exprS x f ok s).1 ∧ exprS x f ok s = ((exprS x f ok s).1, 0, 0) := by
  unfold exprS at h
  obtain ⟨h1, h2, h3, h4⟩ := outE_ok h
  have h5 : exprS x f ok s = (_, 0, 0) := h4
  refine ⟨⟨?_, ?_, h1, h2⟩, ?_⟩
  · exact zero_expr (p := newP (toksS x s) s.length) h1
  · rw [h5]
  · rw [h5]
theorem toks_count (x : Lx) (N : Nat) : ∀ (f a : Nat) (l : Bs) (acc : List Tk), l.length ≤ N → (toksA x f a l acc).l.length ≤ acc.length + l.length
  | 0, a, l, acc, _ => Nat.le_add_right _ _
  | f + 1, a, l, acc, hl => by
    cases hd : l.drop (runS whites l) with
    | nil => rw [toksA_end hd]; exact Nat.le_add_right _ _
    | cons c r =>
      have hld := len_drop hd
      by_cases hn : (nextS x (c :: r)).e = 0
      · have hbd := next_bd x _ hn
        have hdl : ((c :: r).drop (nextS x (c :: r)).n).length + (nextS x (c :: r)).n = (c :: r).length := by rw [List.length_drop]; omega
        rw [toksA_go hd hn]
        have := toks_count x N f (a + runS whites l + (nextS x (c :: r)).n) ((c :: r).drop (nextS x (c :: r)).n) (acc ++ [{ (nextS x (c :: r)).t with a := a + runS whites l }]) (by omega)
        rw [List.length_append, List.length_cons, List.length_nil] at this
        omega
      · have : toksA x (f + 1) a l acc = ⟨[], a + runS whites l, (nextS x (c :: r)).e⟩ := toksA_bad hd hn
        rw [this]
        exact Nat.zero_le _
theorem toksS_count (x : Lx) (l : Bs) : (toksS x l).l.length ≤ l.length := by
  unfold toksS
  split
  · exact Nat.zero_le _
  · have := toks_count x l.length (l.length + 1) 0 l [] (Nat.le_refl _)
    rw [List.length_nil] at this
    omega
theorem on_new {x : Lx} {l : Bs} {T : List Tk} (hl : l.length ≤ 65536) (h : Reads x l T) : On (newP (toksS x l) l.length) T ∧ (newP (toksS x l) l.length).md = 0 := by
  obtain ⟨T', h1, h2⟩ := h 0 []
  have h3 : toksS x l = ⟨T', 0, 0⟩ := by
    unfold toksS
    rw [if_neg (by omega)]
    exact h1
  rw [h3]
  exact ⟨⟨rfl, Nat.zero_le _, h2⟩, rfl⟩
theorem noop_or (R : List Tk) : ∀ q, On q (nm [111, 114] :: R) → ∀ n, 1 ≤ n → n ≤ 4 → q.oper n = none := fun q hq n h1 h2 => by
  have hq2 : On q (tokE 15 :: R) := hq
  exact oper_off (o := 15) (by decide) (by decide) hq2 h2 (by show n ≠ 0; omega)
theorem brackets1 {x : Lx} {f : Nat} {s : Bs} {e : Ex} (ok : Ex → Bool) (hs : s.length ≤ 1000) (h : Rt x f s e) : (exprS x (f + 8) ok (40 :: (s ++ [41]))).2.2 = 9 ∨ exprS x (f + 8) ok (40 :: (s ++ [41])) = (e, 0, 0) := by
  have hc := toksS_count x s
  obtain ⟨hon, hmd⟩ := on_new (x := x) (l := 40 :: (s ++ [41])) (by simp; omega) (reads_open (reads_cat (by omega) h.te (stop41 []) rfl (reads_close (reads_nil x))))
  obtain ⟨r, k1, k2⟩ := brk (W := wordB) (p := newP (toksS x s) s.length) (f := f) (d := 1) (R := []) hon h.te rfl rfl (by show (toksS x s).l.length ≤ 4000; omega) (by rw [hmd]; show ((toksS x s).l.length : Int) + 0 + 1 ≤ 4096; omega) h.e0 h.fin
  have hno : r.2.e = 0 → ∀ n, r.2.oper n = none := fun he => by
    rcases k2 with ⟨_, g, _⟩ | g
    · exact noop_nil _ g
    · exact absurd he (nine_ne g)
  have k3 : exprF wordB (f + 8) (newP (toksS x (40 :: (s ++ [41]))) (40 :: (s ++ [41])).length) 1 = r := by
    rw [expr_of hon]
    exact up1 (f := f + 5) (upTo1 k1 fun he n _ _ => hno he n) (by decide) fun he => hno he 0
  unfold exprS
  rw [k3]
  rcases k2 with ⟨g1, g2, _⟩ | g
  · rw [g1, h.fst]
    exact outE_on g2
  · exact .inl (outE_9 g)
theorem brackets2 {x : Lx} {f : Nat} {s t : Bs} {e d : Ex} (ok : Ex → Bool) (hs : s.length ≤ 1000) (ht : t.length ≤ 1000) (h : Rt x (f + 1) s e) (k : Rt x f t d) :
    (exprS x (f + 9) ok (40 :: (s ++ 41 :: 32 :: ([111, 114] ++ 32 :: 40 :: (t ++ [41]))))).2.2 = 9 ∨ exprS x (f + 9) ok (40 :: (s ++ 41 :: 32 :: ([111, 114] ++ 32 :: 40 :: (t ++ [41])))) = (.mk 15 zeroV [] [e, d], 0, 0) := by
  have hc := toksS_count x s
  have hct := toksS_count x t
  obtain ⟨hon, hmd⟩ := on_new (x := x) (l := 40 :: (s ++ 41 :: 32 :: ([111, 114] ++ 32 :: 40 :: (t ++ [41])))) (by simp; omega) (reads_open (reads_cat (by omega) h.te (stop41 _) rfl (reads_close (reads_blank (reads_tok (o := [111, 114]) (t := nm [111, 114]) rfl rfl (stop32 _) (reads_blank (reads_open (reads_cat (by omega) k.te (stop41 []) rfl (reads_close (reads_nil x))))))))))
  obtain ⟨q, hq⟩ : ∃ q, newP (toksS x (40 :: (s ++ 41 :: 32 :: ([111, 114] ++ 32 :: 40 :: (t ++ [41]))))) (40 :: (s ++ 41 :: 32 :: ([111, 114] ++ 32 :: 40 :: (t ++ [41])))).length = q := ⟨_, rfl⟩
  rw [hq] at hon hmd
  obtain ⟨r, k1, k2⟩ := brk (W := wordB) (p := newP (toksS x s) s.length) (f := f + 1) (d := 1) (R := nm [111, 114] :: (sg [40] :: ((toksS x t).l ++ [sg [41]]))) hon h.te rfl rfl (by show (toksS x s).l.length ≤ 4000; omega) (by rw [hmd]; show ((toksS x s).l.length : Int) + 0 + 1 ≤ 4096; omega) h.e0 h.fin
  have k3 : chainF wordB (f + 7) q 1 1 = r := upTo1 k1 fun he => by
    rcases k2 with ⟨_, g, _⟩ | g
    · exact noop_or _ _ g
    · exact absurd he (nine_ne g)
  have hE : exprF wordB (f + 9) q 1 = moreF wordB (f + 7) r.1 r.2 1 0 := by
    rw [expr_of hon]
    unfold chainF
    rw [if_neg (by decide), k3]
  unfold exprS
  rw [hq, hE]
  rcases k2 with ⟨g1, g2, g3⟩ | g
  · have g2' : On r.2 (tokE 15 :: (sg [40] :: ((toksS x t).l ++ [sg [41]]))) := g2
    have hop : r.2.oper 0 = some 15 := oper_at (o := 15) (by decide) (by decide) g2'
    have hmd2 : r.2.md ≤ 1000 := by
      have : ((newP (toksS x s) s.length).L.length : Int) = ((toksS x s).l.length : Int) := rfl
      rw [hmd, this] at g3
      omega
    obtain ⟨r2, l1, l2⟩ := brk (W := wordB) (p := newP (toksS x t) t.length) (q := r.2.adv) (f := f) (d := 1) (R := []) g2.adv k.te rfl rfl (by show (toksS x t).l.length ≤ 4000; omega) (by show ((toksS x t).l.length : Int) + r.2.md + 1 ≤ 4096; omega) k.e0 k.fin
    have hno : r2.2.e = 0 → ∀ n, r2.2.oper n = none := fun he => by
      rcases l2 with ⟨_, g, _⟩ | g
      · exact noop_nil _ g
      · exact absurd he (nine_ne g)
    have l3 : chainF wordB (f + 6) r.2.adv 1 1 = r2 := upTo1 l1 fun he n _ _ => hno he n
    have hM : moreF wordB (f + 7) r.1 r.2 1 0 = moreF wordB (f + 6) (.mk 15 zeroV [] [r.1, r2.1]) r2.2.made 1 0 := by
      rw [moreF, if_pos g2.e, hop]
      dsimp only
      rw [l3]
      rfl
    rw [hM, moreF]
    rcases l2 with ⟨m1, m2, m3⟩ | m
    · have hmd3 : r2.2.md ≤ 2000 := by
        have e1 : ((newP (toksS x t) t.length).L.length : Int) = ((toksS x t).l.length : Int) := rfl
        have e2 : r.2.adv.md = r.2.md := rfl
        rw [e1, e2] at m3
        omega
      have hmade : r2.2.made = { r2.2 with md := r2.2.md + 1 } := made_ok (N := 0) (by omega)
      have hon2 : On r2.2.made [] := by rw [hmade]; exact m2.md _
      rw [if_pos hon2.e, noop_nil _ hon2]
      dsimp only
      rw [g1, h.fst, m1, k.fst]
      exact outE_on hon2
    · have h9 := nine_made m
      rw [if_neg (nine_ne h9)]
      exact .inl (outE_9 h9)
  · rw [moreF, if_neg (nine_ne g)]
    exact .inl (outE_9 g)
end Go.Proofs.YtkkeplmaphcblaaGreatDoor

namespace Go.Proofs.YtkkeplmaphcblaaGreatDoor
open Go.RowKit

/-- How many bytes a token takes at least. -/
def slen (t : Tk) : Nat := if t.k = 2 then (escB t.t).length + 2 else if t.k = 3 then 13 else if t.k = 4 ∨ t.k = 5 then max 1 t.t.length else 1
def sums : List Tk → Nat
  | [] => 0
  | t :: r => slen t + sums r
theorem sums_app : ∀ (A B : List Tk), sums (A ++ B) = sums A + sums B
  | [], B => by simp [sums]
  | t :: A, B => by
    show slen t + sums (A ++ B) = slen t + sums A + sums B
    rw [sums_app A B]
    omega
theorem qS_slen : ∀ (n : Nat) (l : Bs) (p : Bs × Nat), l.length ≤ n → qS l = some p → (escB p.1).length + 1 = p.2
  | n, [], p, _, h => by cases h
  | 0, c :: r, p, hl, _ => by rw [List.length_cons] at hl; omega
  | n + 1, c :: r, p, hl, h => by
    rw [List.length_cons] at hl
    unfold qS at h
    split at h
    · injection h with h
      subst h
      rfl
    · rename_i h34
      split at h
      · rename_i h92
        cases r with
        | nil => cases h
        | cons d r2 =>
          simp only at h
          rw [List.length_cons] at hl
          split at h
          · rename_i hd
            cases hq : qS r2 with
            | none => rw [hq] at h; cases h
            | some p2 =>
              rw [hq] at h
              injection h with h
              subst h
              have ih := qS_slen n r2 p2 (by omega) hq
              rcases hd with rfl | rfl
              · show (escB (34 :: p2.1)).length + 1 = p2.2 + 2
                rw [show escB (34 :: p2.1) = escC 34 ++ escB p2.1 from rfl, List.length_append]
                have : (escC 34).length = 2 := rfl
                omega
              · show (escB (92 :: p2.1)).length + 1 = p2.2 + 2
                rw [show escB (92 :: p2.1) = escC 92 ++ escB p2.1 from rfl, List.length_append]
                have : (escC 92).length = 2 := rfl
                omega
          · cases h
      · rename_i h92
        cases hq : qS r with
        | none => rw [hq] at h; cases h
        | some p2 =>
          rw [hq] at h
          injection h with h
          subst h
          have ih := qS_slen n r p2 (by omega) hq
          show (escB (c :: p2.1)).length + 1 = p2.2 + 1
          rw [show escB (c :: p2.1) = escC c ++ escB p2.1 from rfl, List.length_append]
          have : (escC c).length = 1 := by unfold escC; rw [if_neg h92, if_neg h34]; rfl
          omega
theorem slen_next (x : Lx) (l : Bs) (h : (nextS x l).e = 0) : slen (nextS x l).t ≤ (nextS x l).n := by
  have hb := (next_bd x l h).1
  match l with
  | [] => cases h
  | c :: r =>
    unfold nextS at h hb ⊢
    simp only at h hb ⊢
    by_cases h1 : figs.contains c = true
    · rw [if_pos h1] at hb ⊢
      exact hb
    · rw [if_neg h1] at h hb ⊢
      by_cases h2 : c = 34
      · rw [if_pos h2] at h hb ⊢
        unfold strS at h ⊢
        cases hq : qS r with
        | none => rw [hq] at h; cases h
        | some p =>
          rw [hq] at h
          simp only at h ⊢
          split at h
          · cases h
          · rename_i hc
            rw [if_neg hc]
            have := qS_slen r.length r p (Nat.le_refl _) hq
            show (escB p.1).length + 2 ≤ p.2 + 1
            omega
      · rw [if_neg h2] at h hb ⊢
        by_cases h3 : c = 64
        · rw [if_pos h3] at h hb ⊢
          unfold dateS at h ⊢
          cases hq : quoD r with
          | none => rw [hq] at h; cases h
          | some p =>
            rw [hq] at h
            simp only at h ⊢
            split at h
            · cases h
            · rename_i hc
              rw [if_neg hc]
              exact Nat.le_refl _
        · rw [if_neg h3] at h hb ⊢
          by_cases h4 : lets.contains c = true
          · rw [if_pos h4] at h hb ⊢
            unfold nameS at h hb ⊢
            split at h
            · cases h
            · rename_i hc
              rw [if_neg hc] at hb ⊢
              show max 1 ((c :: r).take (runS (lets ++ figs) (c :: r))).length ≤ runS (lets ++ figs) (c :: r)
              rw [List.length_take]
              have : 1 ≤ runS (lets ++ figs) (c :: r) := hb
              omega
          · rw [if_neg h4] at h hb ⊢
            unfold signS at h hb ⊢
            cases hf : signsL.find? (fun g => g.isPrefixOf (c :: r)) with
            | none => rw [hf] at h; cases h
            | some g =>
              rw [hf] at hb
              have : 1 ≤ g.length := hb
              show max 1 g.length ≤ g.length
              omega
theorem sums_toks (x : Lx) (N : Nat) : ∀ (f a : Nat) (l : Bs) (acc : List Tk), l.length ≤ N → sums (toksA x f a l acc).l ≤ sums acc + l.length
  | 0, a, l, acc, _ => Nat.le_add_right _ _
  | f + 1, a, l, acc, hl => by
    cases hd : l.drop (runS whites l) with
    | nil => rw [toksA_end hd]; exact Nat.le_add_right _ _
    | cons c r =>
      have hld := len_drop hd
      by_cases hn : (nextS x (c :: r)).e = 0
      · have hbd := next_bd x _ hn
        have hsl := slen_next x _ hn
        have hdl : ((c :: r).drop (nextS x (c :: r)).n).length + (nextS x (c :: r)).n = (c :: r).length := by rw [List.length_drop]; omega
        rw [toksA_go hd hn]
        have := sums_toks x N f (a + runS whites l + (nextS x (c :: r)).n) ((c :: r).drop (nextS x (c :: r)).n) (acc ++ [{ (nextS x (c :: r)).t with a := a + runS whites l }]) (by omega)
        rw [sums_app] at this
        have e1 : sums [{ (nextS x (c :: r)).t with a := a + runS whites l }] = slen (nextS x (c :: r)).t := rfl
        rw [e1] at this
        omega
      · have : toksA x (f + 1) a l acc = ⟨[], a + runS whites l, (nextS x (c :: r)).e⟩ := toksA_bad hd hn
        rw [this]
        exact Nat.zero_le _
theorem sums_all (x : Lx) (l : Bs) : sums (toksS x l).l ≤ l.length := by
  unfold toksS
  split
  · exact Nat.zero_le _
  · have := sums_toks x l.length (l.length + 1) 0 l [] (Nat.le_refl _)
    simpa [sums] using this

/-- What the tokens that are left may be written as. -/
def bud (p : PS) : Nat := 21 * sums (p.L.drop p.nx)
noncomputable def wl (x : Ex) : Nat := (brT x.kids (etxt x)).length
theorem wl_0 : wl zeroE = 0 := by unfold wl brT zeroE; simp [Ex.kids, etxt]
theorem wl_leaf (o : Int) (v : Vl) (s : Bs) : wl (.mk o v s []) = (etxt (.mk o v s [])).length := rfl
theorem wl_kid (o : Int) (v : Vl) (s : Bs) (a : Ex) (r : List Ex) : wl (.mk o v s (a :: r)) = (etxt (.mk o v s (a :: r))).length + 2 := by
  unfold wl brT
  simp [Ex.kids]
theorem etxt_le (x : Ex) : (etxt x).length ≤ wl x := by
  unfold wl brT
  split
  · exact Nat.le_refl _
  · simp
    omega
theorem wl_1 (o : Int) (a : Ex) : wl (.mk o zeroV [] [a]) ≤ wl a + 7 := by
  have := etxt_le a
  rw [wl_kid]
  unfold etxt
  split
  · show wl a + 1 + 2 ≤ _
    omega
  · simp [bNot]
    omega
theorem wl_2 (o : Int) (a b : Ex) : wl (.mk o zeroV [] [a, b]) = wl a + wl b + (signE o).length + 4 := by
  rw [wl_kid]
  simp only [etxt, List.length_append, List.length_cons]
  show wl a + ((signE o).length + (wl b + 1) + 1) + 2 = _
  omega
theorem wl_3 (o : Int) (a b c : Ex) : wl (.mk o zeroV [] [a, b, c]) = wl a + wl b + wl c + 17 := by
  rw [wl_kid]
  simp only [etxt, List.length_append, List.length_cons]
  show 2 + (wl a + (4 + (wl b + (4 + (wl c + 1) + 1) + 1) + 1) + 1) + 2 = _
  omega
section
variable {p : PS} {s : Bs} {t : Tk} {W : Bs → Bool}
theorem bud_get (h : p.L[p.nx]? = some t) : bud p = 21 * slen t + bud p.adv := by
  have hn := (List.getElem?_eq_some_iff.1 h).1
  unfold bud PS.adv
  rw [List.drop_eq_getElem_cons hn]
  have : p.L[p.nx] = t := by rw [List.getElem?_eq_getElem hn] at h; injection h
  rw [this]
  show 21 * (slen t + sums (p.L.drop (p.nx + 1))) = 21 * slen t + 21 * sums (p.L.drop (p.nx + 1))
  omega
theorem bud_is (h : p.isS s = true) : 21 * (max 1 s.length) + bud p.adv ≤ bud p := by
  obtain ⟨he, hn⟩ := isS_lt h
  have ht : p.L[p.nx]? = some p.L[p.nx] := List.getElem?_eq_getElem hn
  rw [bud_get ht]
  rw [isS_some he ht, Bool.and_eq_true] at h
  have h1 : p.L[p.nx].k = 4 ∨ p.L[p.nx].k = 5 := by simpa using h.1
  have h2 : p.L[p.nx].t = s := by simpa using h.2
  have : slen p.L[p.nx] = max 1 s.length := by
    unfold slen
    rw [if_neg (by omega), if_neg (by omega), if_pos h1, h2]
  rw [this]
  exact Nat.le_refl _
theorem bud_fail (k : Int) : bud (p.fail k) = bud p := by
  obtain ⟨_, h2, h3, _⟩ := fail_p p k
  unfold bud
  rw [h2, h3]
theorem bud_need : bud (p.need s) ≤ bud p := by
  unfold PS.need
  split
  · rename_i h
    have := bud_is h
    omega
  · rw [bud_fail]
    exact Nat.le_refl _
theorem bud_made : bud p.made = bud p := by unfold bud; rw [made_nx, made_L]
theorem bud_deep (d : Nat) : bud (p.deep d) = bud p := by
  unfold PS.deep
  split
  · exact bud_fail 9
  · rfl
theorem oper_sign {n : Nat} {o : Int} (h : p.oper n = some o) : p.isS (signE o) = true ∧ 4 ≤ o ∧ o ≤ 15 := by
  unfold PS.oper at h
  cases hf : (levelS n).1.find? (fun g => p.isS g.1) with
  | none => rw [hf] at h; cases h
  | some g =>
    rw [hf] at h
    have hg : g.2 = o := by simpa using h
    have h1 := List.find?_some (p := fun g : Bs × Int => p.isS g.1) hf
    have h2 := List.mem_of_find?_eq_some hf
    have h3 : ∀ g ∈ (levelS n).1, signE g.2 = g.1 ∧ 4 ≤ g.2 ∧ g.2 ≤ 15 := lev_cases (fun n => ∀ g ∈ (levelS n).1, signE g.2 = g.1 ∧ 4 ≤ g.2 ∧ g.2 ≤ 15) (by decide) (by decide) (by decide) (by decide) (fun n => by show ∀ g ∈ (levelS 4).1, signE g.2 = g.1 ∧ 4 ≤ g.2 ∧ g.2 ≤ 15; decide) n
    obtain ⟨k1, k2, k3⟩ := h3 g h2
    rw [hg] at k1 k2 k3
    exact ⟨by rw [k1]; exact h1, k2, k3⟩
theorem wl_val {v : Vl} (h : p.val = some v) : wl (.mk 1 v [] []) + bud p.adv ≤ bud p := by
  unfold PS.val at h
  split at h
  · split at h
    · cases h
    · rename_i t ht
      rw [bud_get ht, wl_leaf]
      have e1 : etxt (.mk 1 v [] []) = vtxt v := by simp [etxt]
      rw [e1]
      have main : (vtxt v).length ≤ 21 * slen t := by
        unfold valT at h
        split at h
        · injection h with h
          subst h
          rename_i h1
          have := dT_len t.n t.s
          have e2 : vtxt ⟨1, t.n, t.s, [], 0⟩ = (dT t.n t.s).1 := by simp [vtxt]
          have e3 : slen t = 1 := by unfold slen; rw [if_neg (by omega), if_neg (by omega), if_neg (by omega)]
          rw [e2, e3]
          omega
        · split at h
          · rename_i h2
            injection h with h
            subst h
            have e2 : vtxt ⟨2, 0, 0, t.t, 0⟩ = 34 :: (escB t.t ++ [34]) := by simp [vtxt]
            have e3 : slen t = (escB t.t).length + 2 := by unfold slen; rw [if_pos h2]
            rw [e2, e3]
            simp
            omega
          · split at h
            · rename_i h3
              injection h with h
              subst h
              have := (yT_spec t.m).1
              have e2 : vtxt ⟨4, 0, 0, [], t.m⟩ = 64 :: 34 :: ((yT t.m).1 ++ [34]) := by simp [vtxt]
              have e3 : slen t = 13 := by unfold slen; rw [if_neg (by omega), if_pos h3]
              rw [e2, e3]
              simp
              omega
            · rename_i n1 n2 n3
              have word : ∀ g : Bs, (t.k = 4 ∨ t.k = 5) ∧ t.t = g → slen t = max 1 g.length := fun g hg => by
                unfold slen
                rw [if_neg n2, if_neg n3, if_pos hg.1, hg.2]
              split at h
              · rename_i hg
                injection h with h
                subst h
                rw [word _ hg]
                decide
              · split at h
                · rename_i hg
                  injection h with h
                  subst h
                  rw [word _ hg]
                  decide
                · split at h
                  · rename_i hg
                    injection h with h
                    subst h
                    rw [word _ hg]
                    decide
                  · cases h
      omega
  · cases h
theorem len_all (W : Bs → Bool) : ∀ f,
    (∀ (p : PS) (d : Nat), wl (exprF W f p d).1 + bud (exprF W f p d).2 ≤ bud p) ∧
    (∀ (p : PS) (d n : Nat), wl (chainF W f p d n).1 + bud (chainF W f p d n).2 ≤ bud p) ∧
    (∀ (x : Ex) (p : PS) (d n : Nat), wl (moreF W f x p d n).1 + bud (moreF W f x p d n).2 ≤ wl x + bud p) ∧
    (∀ (p : PS) (d : Nat), wl (prefixF W f p d).1 + bud (prefixF W f p d).2 ≤ bud p)
  | 0 => by
    refine ⟨fun p d => ?_, fun p d n => ?_, fun x p d n => ?_, fun p d => ?_⟩
    · unfold exprF; rw [wl_0, Nat.zero_add]; exact Nat.le_refl _
    · unfold chainF; rw [wl_0, Nat.zero_add]; exact Nat.le_refl _
    · unfold moreF; exact Nat.le_refl _
    · unfold prefixF; rw [wl_0, Nat.zero_add]; exact Nat.le_refl _
  | f + 1 => by
    obtain ⟨hE, hC, hM, hP⟩ := len_all W f
    refine ⟨fun p d => ?_, fun p d n => ?_, fun x p d n => ?_, fun p d => ?_⟩
    · unfold exprF
      split
      · rename_i hc
        dsimp only
        have h1 := bud_is hc.2
        have h2 := hE (p.deep d).adv d
        have h3 := bud_need (p := (exprF W f (p.deep d).adv d).2) (s := bThen)
        have h4 := hE ((exprF W f (p.deep d).adv d).2.need bThen) d
        have h5 := bud_need (p := (exprF W f ((exprF W f (p.deep d).adv d).2.need bThen) d).2) (s := bElse)
        have h6 := hE ((exprF W f ((exprF W f (p.deep d).adv d).2.need bThen) d).2.need bElse) d
        rw [wl_3, bud_made]
        rw [bud_deep] at h1
        have e1 : max 1 bIf.length = 2 := rfl
        rw [e1] at h1
        omega
      · have := hC (p.deep d) d 0
        rw [bud_deep] at this
        exact this
    · unfold chainF
      split
      · exact hP p d
      · dsimp only
        have h1 := hC p d (n + 1)
        have h2 := hM (chainF W f p d (n + 1)).1 (chainF W f p d (n + 1)).2 d n
        omega
    · unfold moreF
      split
      · split
        · exact Nat.le_refl _
        · rename_i o ho
          dsimp only
          obtain ⟨h1, _, _⟩ := oper_sign ho
          have h2 := bud_is h1
          have h3 := hC p.adv d (n + 1)
          have e1 := wl_2 o x (chainF W f p.adv d (n + 1)).1
          have e2 : (signE o).length ≤ max 1 (signE o).length := Nat.le_max_right _ _
          have e3 : 1 ≤ max 1 (signE o).length := Nat.le_max_left _ _
          split
          · dsimp only
            rw [e1, bud_made]
            omega
          · have h4 := hM (.mk o zeroV [] [x, (chainF W f p.adv d (n + 1)).1]) (chainF W f p.adv d (n + 1)).2.made d n
            rw [e1, bud_made] at h4
            omega
      · exact Nat.le_refl _
    · unfold prefixF
      split
      · split
        · rename_i hs
          have h1 := bud_is hs
          have h2 := hP p.adv d
          dsimp only
          have h3 := wl_1 3 (prefixF W f p.adv d).1
          rw [bud_made]
          have e1 : max 1 ([45] : Bs).length = 1 := rfl
          rw [e1] at h1
          omega
        · split
          · rename_i hs
            have h1 := bud_is hs
            have h2 := hE p.adv (d + 1)
            have h3 := bud_need (p := (exprF W f p.adv (d + 1)).2) (s := [41])
            dsimp only
            omega
          · split
            · rename_i hs
              have h1 := bud_is hs
              have h0 := bud_need (p := p.adv) (s := [40])
              have h2 := hE (p.adv.need [40]) (d + 1)
              have h3 := bud_need (p := (exprF W f (p.adv.need [40]) (d + 1)).2) (s := [41])
              dsimp only
              have h4 := wl_1 16 (exprF W f (p.adv.need [40]) (d + 1)).1
              rw [bud_made]
              have e1 : max 1 bNot.length = 3 := rfl
              rw [e1] at h1
              omega
            · split
              · rename_i v hv
                dsimp only
                rw [bud_made]
                exact wl_val hv
              · split
                · dsimp only
                  rw [wl_0, Nat.zero_add, bud_fail]
                  exact Nat.le_refl _
                · rename_i t ht
                  split
                  · rename_i hw
                    dsimp only
                    have e1 : bud p.made.adv = bud p.adv := by
                      unfold bud PS.adv
                      show 21 * sums (p.made.L.drop (p.made.nx + 1)) = _
                      rw [made_L, made_nx]
                    rw [e1, bud_get ht, wl_leaf]
                    have e2 : etxt (.mk 2 zeroV t.t []) = t.t := by simp [etxt]
                    have e3 : slen t = max 1 t.t.length := by unfold slen; rw [if_neg (by omega), if_neg (by omega), if_pos (.inl hw.1)]
                    rw [e2, e3]
                    have : t.t.length ≤ max 1 t.t.length := Nat.le_max_right _ _
                    omega
                  · dsimp only
                    rw [wl_0, Nat.zero_add, bud_fail]
                    exact Nat.le_refl _
      · rw [wl_0, Nat.zero_add]
        exact Nat.le_refl _
end
/-- What is read of a text is written with few bytes. -/
theorem read_len (x : Lx) (l : Bs) (F d : Nat) : (etxt (exprF wordB F (newP (toksS x l) l.length) d).1).length ≤ 21 * l.length := by
  have h1 := (len_all wordB F).1 (newP (toksS x l) l.length) d
  have h2 := etxt_le (exprF wordB F (newP (toksS x l) l.length) d).1
  have h3 : bud (newP (toksS x l) l.length) = 21 * sums (toksS x l).l := rfl
  have h4 := sums_all x l
  omega
end Go.Proofs.YtkkeplmaphcblaaGreatDoor

namespace Go.Proofs.YtkkeplmaphcblaaGreatDoor
open Go.RowKit

def Ink (l : Bs) : Prop := ∃ c ∈ l, c ≠ 45 ∧ whites.contains c = false
theorem Ink.mono {l m : Bs} (h : Ink l) (hs : ∀ c ∈ l, c ∈ m) : Ink m := by
  obtain ⟨c, hc, h1⟩ := h
  exact ⟨c, hs c hc, h1⟩
theorem vtxt_len {v : Vl} (hv : vSound v) : (vtxt v).length ≤ 514 := by
  obtain ⟨k, n, s, t, mm⟩ := v
  rcases hv with ⟨h1, h2, h3, h4, h5⟩ | ⟨h1, h2, h3, h4⟩ | ⟨h1, h2, h3, h4, h5, h6⟩ | ⟨h1, h2, h3, h4, h5⟩ | ⟨h1, h2, h3, h4, h5, h6⟩
  · simp only at h1
    subst h1
    exact (by decide : nullB.length ≤ 514)
  · simp only at h1
    subst h1
    have := dT_len n s
    simp only [vtxt, if_true]
    omega
  · simp only at h1 h5
    subst h1
    have := escB_two t
    simp [vtxt]
    omega
  · simp only at h1 h5
    subst h1
    rcases h5 with rfl | rfl <;> simp [vtxt, falseB, trueB]
  · simp only at h1
    subst h1
    have := (yT_spec mm).1
    simp [vtxt]
    omega
end Go.Proofs.YtkkeplmaphcblaaGreatDoor

namespace Go.Proofs.YtkkeplmaphcblaaGreatDoor
open Go.RowKit
open Go.Lib hiding intOf

/-- A token's value is sound. -/
def tkOK (t : Tk) : Prop := (t.k = 1 → 0 ≤ t.n ∧ soundS t.n t.s = true) ∧ (t.k = 2 → t.t.length ≤ 256 ∧ goodS (bs t.t) = true) ∧ (t.k = 3 → 0 ≤ t.m ∧ t.m ≤ 3652058)
theorem tk_1 {n s : Int} {t : Bs} (h : 0 ≤ n ∧ soundS n s = true) : tkOK ⟨1, 0, t, n, s, 0⟩ := ⟨fun _ => h, (fun h => absurd (show (1 : Int) = 2 from h) (by decide)), (fun h => absurd (show (1 : Int) = 3 from h) (by decide))⟩
theorem tk_2 {t : Bs} (h : t.length ≤ 256 ∧ goodS (bs t) = true) : tkOK ⟨2, 0, t, 0, 0, 0⟩ := ⟨(fun h => absurd (show (2 : Int) = 1 from h) (by decide)), fun _ => h, (fun h => absurd (show (2 : Int) = 3 from h) (by decide))⟩
theorem tk_3 {t : Bs} {m : Int} (h : 0 ≤ m ∧ m ≤ 3652058) : tkOK ⟨3, 0, t, 0, 0, m⟩ := ⟨(fun h => absurd (show (3 : Int) = 1 from h) (by decide)), (fun h => absurd (show (3 : Int) = 2 from h) (by decide)), fun _ => h⟩
theorem tk_45 {t : Tk} (h : t.k = 4 ∨ t.k = 5) : tkOK t := ⟨(fun _ => by omega), (fun _ => by omega), (fun _ => by omega)⟩
theorem tk_num (m : Int) (w : World) (hw : OKW m w) (c : UInt8) (r : Bs) (hl : (c :: r).length ≤ 100000) (hc : figs.contains c = true) (he : (numS (lxX m) (c :: r)).e = 0) : tkOK (numS (lxX m) (c :: r)).t := by
  have hn := numLen_le (c :: r)
  obtain ⟨k, hk⟩ : ∃ k, numLen (c :: r) = k := ⟨_, rfl⟩
  have hk1 : 1 ≤ k := by
    rw [← hk]
    unfold numLen
    have := runS_head (l := r) hc
    split <;> omega
  unfold numS at he ⊢
  rw [hk] at he hn ⊢
  obtain ⟨q, hq⟩ : ∃ q, (c :: r).take k = q := ⟨_, rfl⟩
  have hql : q.length = k := by rw [← hq, List.length_take]; omega
  have h45 : byteAt (bs q) 0 ≠ 45 := by
    obtain ⟨j, rfl⟩ : ∃ j, k = j + 1 := ⟨k - 1, by omega⟩
    rw [← hq]
    show c ≠ 45
    rintro rfl
    cases hc
  rw [hq] at he ⊢
  obtain ⟨R, hR, hok⟩ := reads_num (bs q) m (by rw [bs_size]; omega) h45
  obtain ⟨e1, e2, e3⟩ := lxP_eq m w hw q (by omega) (hR w hw.hm)
  have he2 : R.e = 0 := e3.symm.trans he
  obtain ⟨n0, sd, _⟩ := hok he2
  have hP : (lxX m).P q = lxP m q := rfl
  rw [hP, e1, e2]
  exact tk_1 ⟨n0, sd⟩
theorem tk_str (m : Int) (r : Bs) (he : (strS (lxX m) r).e = 0) : tkOK (strS (lxX m) r).t := by
  unfold strS at he ⊢
  cases hq : qS r with
  | none => rw [hq] at he; cases he
  | some p =>
    rw [hq] at he
    simp only at he ⊢
    split at he
    · cases he
    · rename_i hc
      rw [if_neg hc]
      have hG : ¬ (lxX m).G p.1 = false := fun h => hc (.inr h)
      have hG2 : (lxX m).G p.1 = goodS (bs p.1) := rfl
      rw [hG2] at hG
      exact tk_2 ⟨by omega, by simpa using hG⟩
theorem tk_date (m : Int) (w : World) (hw : OKW m w) (r : Bs) (_hl : r.length ≤ 100000) (he : (dateS (lxX m) r).e = 0) : tkOK (dateS (lxX m) r).t := by
  unfold dateS at he ⊢
  cases hq : quoD r with
  | none => rw [hq] at he; cases he
  | some p =>
    rw [hq] at he
    simp only at he ⊢
    split at he
    · cases he
    · rename_i hc
      rw [if_neg hc]
      have h11 : p.2 = 11 := Classical.byContradiction fun hn => hc (.inr hn)
      have hD : ((lxX m).D p.1).2 = 0 := Classical.byContradiction fun hn => hc (.inl hn)
      have hpl : p.1.length + 1 ≤ p.2 := by
        unfold quoD at hq
        split at hq
        · exact qS_more _ _ p (Nat.le_refl _) hq
        · cases hq
      obtain ⟨n, e, hn, hr⟩ := Days.days_form (bs p.1) m (by rw [bs_size]; omega)
      obtain ⟨e1, e2⟩ := lxD_eq m w hw p.1 (by omega) (hn w hw.hm)
      have hDe : (lxX m).D p.1 = lxD m p.1 := rfl
      rw [hDe] at hD ⊢
      obtain ⟨d0, d1⟩ := hr (e2.symm.trans hD)
      rw [e1]
      exact tk_3 ⟨d0, d1⟩
theorem tk_next (m : Int) (w : World) (hw : OKW m w) (l : Bs) (hl : l.length ≤ 100000) (he : (nextS (lxX m) l).e = 0) : tkOK (nextS (lxX m) l).t := by
  match l with
  | [] => cases he
  | c :: r =>
    have hr : r.length ≤ 100000 := by rw [List.length_cons] at hl; omega
    unfold nextS at he ⊢
    simp only at he ⊢
    by_cases h1 : figs.contains c = true
    · rw [if_pos h1] at he ⊢
      exact tk_num m w hw c r hl h1 he
    · rw [if_neg h1] at he ⊢
      by_cases h2 : c = 34
      · rw [if_pos h2] at he ⊢
        exact tk_str m r he
      · rw [if_neg h2] at he ⊢
        by_cases h3 : c = 64
        · rw [if_pos h3] at he ⊢
          exact tk_date m w hw r hr he
        · rw [if_neg h3] at he ⊢
          by_cases h4 : lets.contains c = true
          · rw [if_pos h4] at he ⊢
            unfold nameS at he ⊢
            split at he
            · cases he
            · rename_i h
              rw [if_neg h]
              exact tk_45 (.inl rfl)
          · rw [if_neg h4] at he ⊢
            unfold signS at he ⊢
            cases hf : signsL.find? (fun g => g.isPrefixOf (c :: r)) with
            | none => rw [hf] at he; cases he
            | some g => exact tk_45 (.inr rfl)
theorem toksA_ok (m : Int) (w : World) (hw : OKW m w) (N : Nat) : ∀ (f a : Nat) (l : Bs) (acc : List Tk), l.length ≤ 100000 → a + l.length ≤ N → (∀ t ∈ acc, tkOK t ∧ t.a ≤ N) →
    (∀ t ∈ (toksA (lxX m) f a l acc).l, tkOK t ∧ t.a ≤ N) ∧ (toksA (lxX m) f a l acc).n ≤ N ∧ (toksA (lxX m) f a l acc).l.length ≤ acc.length + l.length
  | 0, a, l, acc, _, _, ha => ⟨ha, Nat.zero_le _, Nat.le_add_right _ _⟩
  | f + 1, a, l, acc, hl, hN, ha => by
    cases hd : l.drop (runS whites l) with
    | nil => rw [toksA_end hd]; exact ⟨ha, Nat.zero_le _, Nat.le_add_right _ _⟩
    | cons c r =>
      have hld := len_drop hd
      by_cases hn : (nextS (lxX m) (c :: r)).e = 0
      · have hbd := next_bd (lxX m) _ hn
        have hdl : ((c :: r).drop (nextS (lxX m) (c :: r)).n).length + (nextS (lxX m) (c :: r)).n = (c :: r).length := by rw [List.length_drop]; omega
        rw [toksA_go hd hn]
        have hk := tk_next m w hw (c :: r) (by omega) hn
        obtain ⟨g1, g2, g3⟩ := toksA_ok m w hw N f (a + runS whites l + (nextS (lxX m) (c :: r)).n) ((c :: r).drop (nextS (lxX m) (c :: r)).n) (acc ++ [{ (nextS (lxX m) (c :: r)).t with a := a + runS whites l }]) (by omega) (by omega) (fun t ht => by
          rcases List.mem_append.1 ht with h | h
          · exact ha t h
          · rw [List.mem_singleton.1 h]
            exact ⟨hk, show a + runS whites l ≤ N by omega⟩)
        refine ⟨g1, g2, ?_⟩
        rw [List.length_append, List.length_cons, List.length_nil] at g3
        omega
      · have : toksA (lxX m) (f + 1) a l acc = ⟨[], a + runS whites l, (nextS (lxX m) (c :: r)).e⟩ := toksA_bad hd hn
        rw [this]
        exact ⟨(fun t h => by cases h), show a + runS whites l ≤ N by omega, Nat.zero_le _⟩
theorem toksS_ok (m : Int) (w : World) (hw : OKW m w) (l : Bs) : (∀ t ∈ (toksS (lxX m) l).l, tkOK t ∧ t.a ≤ l.length) ∧ (toksS (lxX m) l).n ≤ l.length ∧ (toksS (lxX m) l).l.length ≤ 65536 := by
  unfold toksS
  split
  · exact ⟨(fun t h => by cases h), Nat.zero_le _, Nat.zero_le _⟩
  · obtain ⟨g1, g2, g3⟩ := toksA_ok m w hw l.length (l.length + 1) 0 l [] (by omega) (by omega) (fun t h => by cases h)
    rw [List.length_nil] at g3
    exact ⟨g1, g2, by omega⟩
end Go.Proofs.YtkkeplmaphcblaaGreatDoor

namespace Go.Proofs.YtkkeplmaphcblaaGreatDoor
open Go.RowKit

/-- A parser of sound tokens, and its places lie in the text. -/
structure POK (N : Nat) (p : PS) : Prop where
  en : p.en ≤ N
  lo : 0 ≤ p.a
  hi : p.a ≤ N
  tk : ∀ t ∈ p.L, tkOK t ∧ t.a ≤ N
section
variable {N : Nat} {p : PS}
theorem POK.at_ (h : POK N p) : 0 ≤ p.at' ∧ p.at' ≤ N := by
  unfold PS.at'
  split
  · have := h.en
    omega
  · rename_i t ht
    have := (h.tk t (List.mem_of_getElem? ht)).2
    omega
theorem POK.fail (h : POK N p) (c : Int) : POK N (p.fail c) := by
  unfold PS.fail
  split
  · exact ⟨h.en, h.at_.1, h.at_.2, h.tk⟩
  · exact h
theorem POK.adv (h : POK N p) : POK N p.adv := ⟨h.en, h.lo, h.hi, h.tk⟩
theorem POK.take (h : POK N p) (s : Bs) : POK N (p.take s) := by
  unfold PS.take
  split
  · exact h.adv
  · exact h
theorem POK.need (h : POK N p) (s : Bs) : POK N (p.need s) := by
  unfold PS.need
  split
  · exact h.adv
  · exact h.fail 5
theorem POK.lit (h : POK N p) : POK N p.lit.2 := by
  unfold PS.lit
  split
  · exact (h.take _).fail 5
  · split
    · split
      · exact (h.take _).adv
      · exact (h.take _).fail 5
    · exact (h.take _).adv
theorem POK.close (h : POK N p) : POK N p.close := by
  unfold PS.close
  split
  · exact h.adv
  · exact h.fail 5
theorem POK.fin (h : POK N p) : POK N p.fin := by
  unfold PS.fin
  split
  · exact h.fail 5
  · exact h

theorem valT_vs {t : Tk} {v : Vl} (ht : tkOK t) (h : valT t = some v) : vSound v := by
  unfold valT at h
  split at h
  · rename_i h1
    injection h with h
    subst h
    exact .inr (.inl ⟨rfl, (ht.1 h1).2, rfl, rfl⟩)
  · split at h
    · rename_i h2
      injection h with h
      subst h
      exact .inr (.inr (.inl ⟨rfl, rfl, rfl, rfl, (ht.2.1 h2).1, (ht.2.1 h2).2⟩))
    · split at h
      · rename_i h3
        injection h with h
        subst h
        exact .inr (.inr (.inr (.inr ⟨rfl, rfl, rfl, rfl, (ht.2.2 h3).1, (ht.2.2 h3).2⟩)))
      · split at h
        · injection h with h
          subst h
          exact .inr (.inr (.inr (.inl ⟨rfl, rfl, rfl, rfl, .inr rfl⟩)))
        · split at h
          · injection h with h
            subst h
            exact .inr (.inr (.inr (.inl ⟨rfl, rfl, rfl, rfl, .inl rfl⟩)))
          · split at h
            · injection h with h
              subst h
              exact .inl ⟨rfl, rfl, rfl, rfl, rfl⟩
            · cases h
theorem val_vs (h : POK N p) {v : Vl} (hv : p.val = some v) : vSound v := by
  unfold PS.val at hv
  split at hv
  · split at hv
    · cases hv
    · rename_i t ht
      exact valT_vs (h.tk t (List.mem_of_getElem? ht)).1 hv
  · cases hv
end
end Go.Proofs.YtkkeplmaphcblaaGreatDoor

namespace Go.Proofs.YtkkeplmaphcblaaGreatDoor
open Go.RowKit

section
variable {N : Nat} {p : PS}
theorem POK.md (h : POK N p) (z : Int) : POK N { p with md := z } := ⟨h.en, h.lo, h.hi, h.tk⟩
theorem POK.made (h : POK N p) : POK N p.made := by
  unfold PS.made
  split
  · exact (h.md _).fail 10
  · exact h.md _
theorem POK.deep (h : POK N p) (d : Nat) : POK N (p.deep d) := by
  unfold PS.deep
  split
  · exact h.fail 9
  · exact h
theorem pok_all (W : Bs → Bool) (N : Nat) : ∀ f,
    (∀ (p : PS) (d : Nat), POK N p → POK N (exprF W f p d).2) ∧
    (∀ (p : PS) (d n : Nat), POK N p → POK N (chainF W f p d n).2) ∧
    (∀ (x : Ex) (p : PS) (d n : Nat), POK N p → POK N (moreF W f x p d n).2) ∧
    (∀ (p : PS) (d : Nat), POK N p → POK N (prefixF W f p d).2)
  | 0 => by
    refine ⟨fun p d h => ?_, fun p d n h => ?_, fun x p d n h => ?_, fun p d h => ?_⟩
    · unfold exprF; exact h
    · unfold chainF; exact h
    · unfold moreF; exact h
    · unfold prefixF; exact h
  | f + 1 => by
    obtain ⟨hE, hC, hM, hP⟩ := pok_all W N f
    refine ⟨fun p d h => ?_, fun p d n h => ?_, fun x p d n h => ?_, fun p d h => ?_⟩
    · unfold exprF
      split
      · exact (hE _ d ((hE _ d ((hE _ d (h.deep d).adv).need _)).need _)).made
      · exact hC _ d 0 (h.deep d)
    · unfold chainF
      split
      · exact hP p d h
      · exact hM _ _ d n (hC p d (n + 1) h)
    · unfold moreF
      split
      · split
        · exact h
        · dsimp only
          split
          · exact (hC _ d (n + 1) h.adv).made
          · exact hM _ _ d n (hC _ d (n + 1) h.adv).made
      · exact h
    · unfold prefixF
      split
      · split
        · exact (hP _ d h.adv).made
        · split
          · exact (hE _ (d + 1) h.adv).need _
          · split
            · exact ((hE _ (d + 1) (h.adv.need _)).need _).made
            · split
              · exact h.adv.made
              · split
                · exact h.fail 5
                · split
                  · exact h.made.adv
                  · exact h.fail 5
      · exact h
end
theorem expr_place (m : Int) (w : World) (hw : OKW m w) (l : Bs) (F : Nat) (ok : Ex → Bool) : 0 ≤ (exprS (lxX m) F ok l).2.1 ∧ (exprS (lxX m) F ok l).2.1 ≤ l.length := by
  obtain ⟨h1, h2, _⟩ := toksS_ok m w hw l
  have h0 : POK l.length (newP (toksS (lxX m) l) l.length) := ⟨Nat.le_refl _, Int.natCast_nonneg _, Int.ofNat_le.2 h2, h1⟩
  have h3 := ((pok_all wordB l.length F).1 _ 1 h0).fin
  unfold exprS outE
  split
  · split
    · exact ⟨Int.le_refl _, Int.natCast_nonneg _⟩
    · exact ⟨Int.le_refl _, Int.natCast_nonneg _⟩
  · exact ⟨h3.lo, h3.hi⟩
/-- What is written is read back. -/
theorem expr_back (m : Int) (w : World) (hw : OKW m w) {x : Ex} (hx : ES wordB x) (hd : dep x ≤ 64) (hc : cnt x ≤ 4096) (hl : (etxt x).length ≤ 65536) (ok : Ex → Bool) (ho : ok x = true) (F : Nat) (hF : 1300 ≤ F) : exprS (lxX m) F ok (etxt x) = (x, 0, 0) := by
  obtain ⟨q, h1, h2, h3⟩ := exback_toks (F := F) hw hx hd hc hl (by omega)
  unfold exprS outE
  rw [h1]
  dsimp only
  rw [h2, if_pos h3, if_pos ho]
end Go.Proofs.YtkkeplmaphcblaaGreatDoor

namespace Go.Proofs.YtkkeplmaphcblaaGreatDoor
open Go.RowKit

theorem ex_ind {P : Ex → Prop} (h : ∀ o v s kids, (∀ k ∈ kids, P k) → P (.mk o v s kids)) : ∀ x, P x
  | .mk o v s kids => h o v s kids fun k hk => have _h := hk; ex_ind h k
termination_by x => SizeOf.sizeOf x
decreasing_by
  have := List.sizeOf_lt_of_mem hk
  simp
  omega
mutual
/-- What the law's big answers. -/
def bigS : Ex → Nat → Int → Int
  | .mk _ _ _ kids, d, l => if 80 < d then -1 else bigL kids (d + 1) (l - 1)
def bigL : List Ex → Nat → Int → Int
  | [], _, l => l
  | k :: r, d, l => if 0 ≤ l then bigL r d (bigS k d l) else l
end
/-- How many parts an operator has. -/
def kidsN (o : Int) : Int := if o = 1 ∨ o = 2 then 0 else if o = 3 ∨ o = 16 then 1 else if o = 17 then 3 else if 4 ≤ o ∧ o ≤ 15 then 2 else -1
/-- May it have this value and this name? -/
def okP (o : Int) (v : Vl) (s : Bs) : Prop := (if o = 2 then wordB s = true else s = []) ∧ if o = 1 then vSound v ∧ 0 ≤ v.n else v = zeroV
open Classical in
noncomputable def okE (o : Int) (v : Vl) (s : Bs) : Bool := decide (okP o v s)
open Classical in
theorem okE_iff {o : Int} {v : Vl} {s : Bs} : okE o v s = true ↔ okP o v s := decide_eq_true_iff
mutual
/-- What expr.sound answers, and how many may still come. -/
noncomputable def sndE : Ex → Nat → Int → Bool × Int
  | .mk o v s kids, d, l => if d ≤ 64 ∧ 0 ≤ l - 1 ∧ (kids.length : Int) = kidsN o ∧ okE o v s = true then sndL kids (d + 1) (l - 1) else (false, l - 1)
noncomputable def sndL : List Ex → Nat → Int → Bool × Int
  | [], _, l => (true, l)
  | k :: r, d, l => if (sndE k d l).1 = true then sndL r d (sndE k d l).2 else (false, (sndE k d l).2)
end
/-- Whether it may be an expression. -/
noncomputable def soundX (x : Ex) : Bool := (sndE x 1 4096).1

theorem kids_len {kids : List Ex} {o : Int} (h : (kids.length : Int) = kidsN o) : (kids = [] ∧ (o = 1 ∨ o = 2)) ∨ (∃ a, kids = [a] ∧ (o = 3 ∨ o = 16)) ∨ (∃ a b, kids = [a, b] ∧ 4 ≤ o ∧ o ≤ 15) ∨ ∃ a b c, kids = [a, b, c] ∧ o = 17 := by
  unfold kidsN at h
  split at h
  · rename_i ho
    exact .inl ⟨List.eq_nil_of_length_eq_zero (by omega), ho⟩
  · split at h
    · rename_i ho
      match kids, h with
      | [], h => simp at h
      | [a], _ => exact .inr (.inl ⟨a, rfl, ho⟩)
      | _ :: _ :: _, h => simp at h; omega
    · split at h
      · rename_i ho
        match kids, h with
        | [], h => simp at h
        | [_], h => simp at h
        | [_, _], h => simp at h
        | [a, b, c], _ => exact .inr (.inr (.inr ⟨a, b, c, rfl, ho⟩))
        | _ :: _ :: _ :: _ :: _, h => simp at h; omega
      · split at h
        · rename_i ho
          match kids, h with
          | [], h => simp at h
          | [_], h => simp at h
          | [a, b], _ => exact .inr (.inr (.inl ⟨a, b, rfl, ho⟩))
          | _ :: _ :: _ :: _, h => simp at h; omega
        · omega
theorem okP_1 {o : Int} {v : Vl} {s : Bs} (h : okE o v s = true) (h1 : ¬ o = 1) (h2 : ¬ o = 2) : v = zeroV ∧ s = [] := by
  obtain ⟨g1, g2⟩ := okE_iff.1 h
  rw [if_neg h2] at g1
  rw [if_neg h1] at g2
  exact ⟨g2, g1⟩
theorem sndE_true : ∀ (x : Ex) (d : Nat) (l : Int), (sndE x d l).1 = true → ES wordB x ∧ d + dep x ≤ 65 ∧ (sndE x d l).2 = l - (cnt x : Nat) ∧ 0 ≤ (sndE x d l).2 := by
  intro x
  induction x using ex_ind with
  | h o v s kids ih =>
    intro d l h
    rw [sndE] at h ⊢
    by_cases hc : d ≤ 64 ∧ 0 ≤ l - 1 ∧ (kids.length : Int) = kidsN o ∧ okE o v s = true
    · rw [if_pos hc] at h ⊢
      obtain ⟨c1, c2, c3, c4⟩ := hc
      rcases kids_len c3 with ⟨rfl, ho⟩ | ⟨a, rfl, ho⟩ | ⟨a, b, rfl, h4, h15⟩ | ⟨a, b, c, rfl, ho⟩
      · obtain ⟨g1, g2⟩ : okP o v s := okE_iff.1 c4
        refine ⟨?_, by simp [dep]; omega, by simp [sndL, cnt], by simpa [sndL] using c2⟩
        rcases ho with rfl | rfl
        · rw [if_neg (by decide)] at g1
          rw [if_pos rfl] at g2
          subst g1
          exact .val v g2.1 g2.2
        · rw [if_pos rfl] at g1
          rw [if_neg (by decide)] at g2
          subst g2
          exact .name s g1
      · obtain ⟨rfl, rfl⟩ := okP_1 c4 (by omega) (by omega)
        simp only [sndL] at h ⊢
        by_cases ha : (sndE a (d + 1) (l - 1)).1 = true
        · rw [if_pos ha] at h ⊢
          obtain ⟨e1, e2, e3, e4⟩ := ih a (by simp) _ _ ha
          refine ⟨?_, by simp [dep]; omega, by rw [e3]; simp [cnt]; omega, e4⟩
          rcases ho with rfl | rfl
          · exact .neg a e1
          · exact .not a e1
        · rw [if_neg ha] at h
          cases h
      · obtain ⟨rfl, rfl⟩ := okP_1 c4 (by omega) (by omega)
        simp only [sndL] at h ⊢
        by_cases ha : (sndE a (d + 1) (l - 1)).1 = true
        · rw [if_pos ha] at h ⊢
          obtain ⟨e1, e2, e3, e4⟩ := ih a (by simp) _ _ ha
          by_cases hb : (sndE b (d + 1) (sndE a (d + 1) (l - 1)).2).1 = true
          · rw [if_pos hb] at h ⊢
            obtain ⟨k1, k2, k3, k4⟩ := ih b (by simp) _ _ hb
            exact ⟨.bin o a b h4 h15 e1 k1, by simp [dep]; omega, by rw [k3, e3]; simp [cnt]; omega, k4⟩
          · rw [if_neg hb] at h
            cases h
        · rw [if_neg ha] at h
          cases h
      · subst ho
        obtain ⟨rfl, rfl⟩ := okP_1 c4 (by omega) (by omega)
        simp only [sndL] at h ⊢
        by_cases ha : (sndE a (d + 1) (l - 1)).1 = true
        · rw [if_pos ha] at h ⊢
          obtain ⟨e1, e2, e3, e4⟩ := ih a (by simp) _ _ ha
          by_cases hb : (sndE b (d + 1) (sndE a (d + 1) (l - 1)).2).1 = true
          · rw [if_pos hb] at h ⊢
            obtain ⟨k1, k2, k3, k4⟩ := ih b (by simp) _ _ hb
            by_cases hcc : (sndE c (d + 1) (sndE b (d + 1) (sndE a (d + 1) (l - 1)).2).2).1 = true
            · rw [if_pos hcc] at h ⊢
              obtain ⟨m1, m2, m3, m4⟩ := ih c (by simp) _ _ hcc
              exact ⟨.ife a b c e1 k1 m1, by simp [dep]; omega, by rw [m3, k3, e3]; simp [cnt]; omega, m4⟩
            · rw [if_neg hcc] at h
              cases h
          · rw [if_neg hb] at h
            cases h
        · rw [if_neg ha] at h
          cases h
    · rw [if_neg hc] at h
      cases h
theorem okE_0 {o : Int} (h1 : ¬ o = 1) (h2 : ¬ o = 2) : okE o zeroV [] = true := okE_iff.2 ⟨by rw [if_neg h2], by rw [if_neg h1]⟩
theorem sndE_of {x : Ex} (hx : ES wordB x) : ∀ (d : Nat) (l : Int), d + dep x ≤ 65 → (cnt x : Nat) ≤ l → sndE x d l = (true, l - (cnt x : Nat)) := by
  induction hx with
  | val v h h0 =>
    intro d l h1 h2
    simp only [dep, cnt] at h1 h2
    rw [sndE, if_pos ⟨by omega, by omega, rfl, okE_iff.2 ⟨rfl, h, h0⟩⟩]
    simp [sndL, cnt]
  | name s h =>
    intro d l h1 h2
    simp only [dep, cnt] at h1 h2
    rw [sndE, if_pos ⟨by omega, by omega, rfl, okE_iff.2 ⟨h, rfl⟩⟩]
    simp [sndL, cnt]
  | neg a h ih =>
    intro d l h1 h2
    simp only [dep, cnt] at h1 h2
    rw [sndE, if_pos ⟨by omega, by omega, rfl, okE_0 (by decide) (by decide)⟩]
    simp only [sndL]
    rw [ih _ _ (by omega) (by omega)]
    simp [cnt]
    omega
  | not a h ih =>
    intro d l h1 h2
    simp only [dep, cnt] at h1 h2
    rw [sndE, if_pos ⟨by omega, by omega, rfl, okE_0 (by decide) (by decide)⟩]
    simp only [sndL]
    rw [ih _ _ (by omega) (by omega)]
    simp [cnt]
    omega
  | bin o a b h4 h15 ha hb iha ihb =>
    intro d l h1 h2
    simp only [dep, cnt] at h1 h2
    have hk : kidsN o = 2 := by unfold kidsN; rw [if_neg (by omega), if_neg (by omega), if_neg (by omega), if_pos ⟨h4, h15⟩]
    rw [sndE, if_pos ⟨by omega, by omega, by rw [hk]; rfl, okE_0 (by omega) (by omega)⟩]
    simp only [sndL]
    rw [iha _ _ (by omega) (by omega)]
    simp only [if_true]
    rw [ihb _ _ (by omega) (by omega)]
    simp [cnt]
    omega
  | ife a b c ha hb hc iha ihb ihc =>
    intro d l h1 h2
    simp only [dep, cnt] at h1 h2
    rw [sndE, if_pos ⟨by omega, by omega, rfl, okE_0 (by decide) (by decide)⟩]
    simp only [sndL]
    rw [iha _ _ (by omega) (by omega)]
    simp only [if_true]
    rw [ihb _ _ (by omega) (by omega)]
    simp only [if_true]
    rw [ihc _ _ (by omega) (by omega)]
    simp [cnt]
    omega
/-- What is sound. -/
theorem soundX_iff (x : Ex) : soundX x = true ↔ ES wordB x ∧ dep x ≤ 64 ∧ cnt x ≤ 4096 := by
  constructor
  · intro h
    obtain ⟨h1, h2, h3, h4⟩ := sndE_true x 1 4096 h
    exact ⟨h1, by omega, by omega⟩
  · rintro ⟨h1, h2, h3⟩
    unfold soundX
    rw [sndE_of h1 1 4096 (by omega) (by omega)]
end Go.Proofs.YtkkeplmaphcblaaGreatDoor
