/- Two contracts of one call at one world give the same answer. lex.one at any token, at this program. Tokens that are written are read as they were, plainly. What reading a number or a day says of it: it is sound, and its own text is read as it. What is read can be written, and is no longer than three times what was read. The tokens of what is written for tests. Tests that are written are read as they were, plainly. An expression that is written is read as it was: the tokens, plainly. What is written for an expression has its tokens: plainly. An expression between brackets is read as it is without: step by step, plainly. An expression between brackets is read as it is without, plainly: all together. Brackets around a whole expression change nothing; two with an or between are that: plainly. How long what is written for a read expression is at most: plainly. Tests that are written are read as they were: the plain law. What the tokens of a text are: sound, and where they stand. What is read as tests is sound, and where it is wrong lies in the text: plainly. What is read as an expression, if it may be one, is written and read back; and where a text is wrong lies in it: plainly. Whether something is an expression, its names, and how great it is: plainly. The simplest expression: how it is read, and what is written of it, plainly. The walks of expr.NewParser and of expr.Parser's Value. Expressions in memory: eight cells each, the kids behind a slice. The walk of value.Sound, and what it says. What value.Sound says, in plain words. The walks of what expr.sound asks of an expression's kids. The walk of expr.sound at one expression. Values and rows of structs that came in as an argument: how they read. -/
import Derived.Calls
import Derived.Test.YtapilekangmcoaaGreatDoorN1
import Derived.Test.YtapilekangmcoaaGreatDoorN9
import Derived.Test.YtapilekangmcoaaGreatDoorN21
import Derived.Test.YtapilekangmcoaaGreatDoorN19
import Derived.Test.YtapilekangmcoaaGreatDoorN13
import Derived.Test.YtapilekangmcoaaGreatDoorN18
import Derived.Test.YtapilekangmcoaaGreatDoorN3
import Derived.Test.YtapilekangmcoaaGreatDoorN6
import Derived.Test.YtapilekangmcoaaGreatDoorN10
import Derived.Deep.QuietTactic
import Derived.BigQuiet
set_option linter.unusedVariables false
set_option linter.unusedSimpArgs false
set_option maxHeartbeats 8000000
set_option maxRecDepth 100000
namespace Go.Proofs.YtapilekangmcoaaGreatDoor
theorem calls_det {P : Program} {f : FuncId} {args : Array Value} {w : World} {v1 v2 : Value} {Q1 Q2 : World → Prop} (hi : P.inits.idxOf? f = none)
   (h1 : Calls P f args w fun e w' => e = .returned v1 ∧ Q1 w') (h2 : Calls P f args w fun e w' => e = .returned v2 ∧ Q2 w') : v1 = v2 := by
 obtain ⟨e1, w1, fr1, ⟨rfl, _⟩, s1, g1, l1⟩ := h1 []
 obtain ⟨e2, w2, fr2, ⟨rfl, _⟩, s2, g2, l2⟩ := h2 []
 have d1 := step_leave_done l1 (by rw [g1]; exact hi)
 have d2 := step_leave_done l2 (by rw [g2]; exact hi)
 obtain ⟨n1, r1⟩ := s1
 obtain ⟨n2, r2⟩ := s2
 have key : ∀ (a b : Nat) (fr fr' : Frame) (u u' : World) (x x' : Value), runN P a (lone (Frame.enter P f args .normal) [] w) = .next (lone fr [] u) → runN P b (lone (Frame.enter P f args .normal) [] w) = .next (lone fr' [] u') → step P (lone fr [] u) = .ended (.done x) u → step P (lone fr' [] u') = .ended (.done x') u' → a ≤ b → x = x' := by
   intro a b fr fr' u u' x x' ra rb da db hab
   obtain ⟨k, rfl⟩ : ∃ k, b = a + k := ⟨b - a, by omega⟩
   rw [runN_add, ra] at rb
   cases k with
   | zero =>
     have h3 : lone fr [] u = lone fr' [] u' := by simpa [runN] using rb
     rw [h3] at da
     rw [da] at db
     injection db with h4 h5
     injection h4
   | succ k =>
     simp [runN, da] at rb
 rcases Nat.le_total n1 n2 with h | h
 · exact key n1 n2 fr1 fr2 w1 w2 v1 v2 r1 r2 d1 d2 h
 · exact (key n2 n1 fr2 fr1 w2 w1 v2 v1 r2 r1 d2 d1 h).symm
end Go.Proofs.YtapilekangmcoaaGreatDoor
namespace Go.Proofs.YtapilekangmcoaaGreatDoor
open Go.RowKit
/-- A number as a text. -/
def dT (n s : Int) : Bs × Int := if soundS n s = true then (textS (decide (n < 0)) (mag n).toNat s.toNat, 0) else ([], 2)
theorem mag_nat (n : Int) : mag n = ((mag n).toNat : Int) := by unfold mag; split <;> omega
theorem dtext (n s : Int) (hn : I64 n) (hs : I64 s) (w : World) (htab : Lib.TabIs Tryz.prog w "internal/strconv.uint64pow10" .u64 Lib.pow10Tab) :
   Calls Tryz.prog 134 #[.agg #[.int .i64 n, .int .i64 s]] w fun e w' => e = .returned (.tuple #[.string (bs (dT n s).1), .int .i64 (dT n s).2]) ∧ Below w.heap.size w w' := by
 unfold dT
 by_cases h : soundS n s = true
 · rw [if_pos h]
   obtain ⟨b1, b2, _⟩ := sound_bd h
   exact text_any n s (mag n).toNat s.toNat hn (by omega) h (mag_nat n) _ rfl w htab
 · rw [if_neg h]
   exact text_form n s hn hs h w
theorem textU_len {N sc : Nat} (hN : N < 1000000000000) (hs : sc ≤ 6) : (textU N sc).length ≤ 20 := by
 have hW : N / 10 ^ sc < 10 ^ 12 := Nat.lt_of_le_of_lt (Nat.div_le_self _ _) (by omega)
 have hWd := nDigits_le (by decide) hW
 unfold textU
 split
 · rename_i h0; subst h0; simp only [Nat.pow_zero, Nat.div_one] at hWd; rw [Lib.decDigits_length]; omega
 · rw [List.length_append, Lib.decDigits_length, List.length_cons, pd_length]; omega
theorem dT_len (n s : Int) : (dT n s).1.length ≤ 21 := by
 unfold dT
 split
 · rename_i h
   obtain ⟨b1, b2, b3, b4, _⟩ := sound_bd h
   have hm := mag_bd b3 b4
   have hn := mag_nat n
   have h1 := textU_len (N := (mag n).toNat) (sc := s.toNat) (by omega) (by omega)
   show (textS _ _ _).length ≤ 21
   unfold textS
   split
   · rw [List.length_cons]; omega
   · omega
 · simp
end Go.Proofs.YtapilekangmcoaaGreatDoor
namespace Go.Proofs.YtapilekangmcoaaGreatDoor.Days
open Go.RowKit
theorem texts_len (n : Int) : ∃ (l : Bs) (e : Int), l.length ≤ 10 ∧ (∀ w, Lib.TabIs Tryz.prog w "internal/strconv.uint64pow10" .u64 Lib.pow10Tab → Calls Tryz.prog 137 #[.int .i64 n] w fun x w' => x = .returned (.tuple #[.string (bs l), .int .i64 e]) ∧ Below w.heap.size w w') ∧ (∀ _ : World, True) := by
 by_cases h : n < 0 ∨ 3652058 < n
 · refine ⟨[], 3, by simp, fun w _ => (text_bad n h w).mono ?_, fun _ => trivial⟩
   rintro x w' ⟨rfl, rfl⟩
   exact ⟨rfl, Below.refl _ _⟩
 · obtain ⟨y, m, a, b, c, d, e, f, g⟩ := date_of n (by omega) (by omega)
   exact ⟨_, 0, Nat.le_of_eq (textL_length _ _ _), fun w ht => text_ok n y m (by omega) (by omega) a b c d e f g w ht, fun _ => trivial⟩
end Go.Proofs.YtapilekangmcoaaGreatDoor.Days
namespace Go.Proofs.YtapilekangmcoaaGreatDoor
open Go.RowKit
/-- A day as a text. -/
noncomputable def yT (n : Int) : Bs × Int := (Classical.choose (Days.texts_len n), Classical.choose (Classical.choose_spec (Days.texts_len n)))
theorem yT_spec (n : Int) : (yT n).1.length ≤ 10 ∧ (∀ w, Lib.TabIs Tryz.prog w "internal/strconv.uint64pow10" .u64 Lib.pow10Tab → Calls Tryz.prog 137 #[.int .i64 n] w fun x w' => x = .returned (.tuple #[.string (bs (yT n).1), .int .i64 (yT n).2]) ∧ Below w.heap.size w w') ∧ (∀ _ : World, True) :=
 Classical.choose_spec (Classical.choose_spec (Days.texts_len n))
theorem bs_toList (l : Bs) : (bs l).toList = l := by rw [Lib.toList_data]; rfl
theorem bs_app (a b : Bs) : bs a ++ bs b = bs (a ++ b) := by
 apply ByteArray.ext
 apply Array.toList_inj.1
 rw [ByteArray.data_append, Array.toList_append]
 rfl
end Go.Proofs.YtapilekangmcoaaGreatDoor
namespace Go.Proofs.YtapilekangmcoaaGreatDoor
end Go.Proofs.YtapilekangmcoaaGreatDoor
namespace Go.Proofs.YtapilekangmcoaaGreatDoor
open Go.RowKit
open Go.Lib hiding intOf
theorem short_end : ∀ (k : Nat) (n : Int), (short k n).2 = 0 ∨ ¬ (short k n).1 % 10 = 0
 | 0, n => .inl rfl
 | k + 1, n => by
   rw [short]
   split
   · exact short_end k _
   · rename_i h; exact .inr h
/-- A number that was read is sound, and its text is no longer. -/
def NumOk (R : Res) (len : Nat) : Prop := 0 ≤ R.n ∧ soundS R.n R.s = true ∧ (textU R.n.toNat R.s.toNat).length ≤ len
theorem num_dec {pt wh u len : Nat} (hu : u < 10 ^ (wh + pt)) (hw : 1 ≤ wh) (h6 : pt ≤ 6) (hlen : wh + pt ≤ len) (hdot : 0 < pt → wh + 1 + pt ≤ len) (he : (decS pt (u : Int) false).e = 0) : NumOk (decS pt (u : Int) false) len := by
 obtain ⟨b1, b2, b3, b4⟩ := short_bd pt (u : Int) (by omega)
 have hend := short_end pt (u : Int)
 unfold decS at he ⊢
 split at he
 · cases he
 · rename_i hb
   rw [if_neg hb]
   have hbig := big_def
   have hN : ((short pt (u : Int)).1.toNat : Int) = (short pt (u : Int)).1 := Int.toNat_of_nonneg b1
   have hS : ((short pt (u : Int)).2.toNat : Int) = (short pt (u : Int)).2 := Int.toNat_of_nonneg b3
   refine ⟨by simpa using b1, ?_, ?_⟩
   · rw [sound_iff]
     unfold soundB
     simp only [Bool.false_eq_true, if_false]
     exact decide_eq_true ⟨b3, by omega, by omega, by omega, hend⟩
   · simp only [Bool.false_eq_true, if_false]
     have hNu : (short pt (u : Int)).1.toNat < 10 ^ (wh + pt) := by omega
     have hd := nDigits_le (by omega) hNu
     unfold textU
     split
     · rw [decDigits_length]; omega
     · rename_i h0
       have h2 := nDigits_div (N := (short pt (u : Int)).1.toNat) (sc := (short pt (u : Int)).2.toNat)
       rw [List.length_append, decDigits_length, List.length_cons, pd_length]
       have := hdot (by omega)
       omega
theorem reads_num (s : ByteArray) (m : Int) (hs : s.size < 4294967281) (h45 : byteAt s 0 ≠ 45) : ∃ R : Res, (∀ w : World, w.cell? ⟨5, 0, none⟩ = some (.int .i64 m) → Calls Tryz.prog 153 #[.string s] w fun x w' => x = .returned (.tuple #[.agg #[.int .i64 R.n, .int .i64 R.s], .int .i64 R.e]) ∧ Below w.heap.size w w') ∧ (R.e = 0 → NumOk R s.size) := by
 obtain ⟨r, wh, pa, pt, minus, dot, P⟩ := parts_ex s hs
 have C := P.cut
 obtain rfl : minus = false := by
   cases minus with
   | false => rfl
   | true => exact absurd (P.m1 rfl).2.1 h45
 have hsr := (P.m0 rfl).1
 by_cases good : (allDig wh.data.toList = true ∧ (dot = true → allDig pa.data.toList = true)) ∧ ¬ (dot = true ∧ pa.size = 0) ∧ wh.size ≠ 0 ∧ ¬ lead wh
 · obtain ⟨g1, g2, g3, g4⟩ := good
   have dw : digB wh = true := digB_iff.2 ⟨g3, g1.1⟩
   have dp : dot = false ∨ dot = true ∧ digB pa = true := by
     cases hd : dot with
     | false => exact .inl rfl
     | true => exact .inr ⟨rfl, digB_iff.2 ⟨fun h0 => g2 ⟨hd, h0⟩, g1.2 hd⟩⟩
   by_cases big : 6 < pt.size ∨ 12 < wh.size
   · refine ⟨⟨0, 0, 3⟩, fun w hm => ?_, fun h => by cases h⟩
     rcases lead_ways g4 with l1 | ⟨l1, l2⟩
     · have h6 : 6 < pt.size := by omega
       exact parse_Do C dw dp l1 h6 m w hm
     · by_cases h6 : 6 < pt.size
       · exact parse_Dt C dw dp l1 l2 h6 m w hm
       · exact parse_Et C dw dp l1 l2 (by omega) (by omega) m w hm
   · obtain ⟨t, ht⟩ := trim_sub pa.data.toList
     rw [C.h4] at ht
     have hpt : allDig pt.data.toList = true := by
       rcases dp with hd | ⟨_, hd⟩
       · have hpa := (P.w3 hd).2
         have h0 : pt.data.toList = [] := by rw [← C.h4, hpa]; rfl
         rw [h0]; rfl
       · have := (digB_iff.1 hd).2
         rw [ht] at this
         unfold allDig at this ⊢
         rw [List.all_append, Bool.and_eq_true] at this
         exact this.1
     have hall : allDig (wh ++ pt).data.toList = true := by
       rw [ByteArray.data_append, Array.toList_append]
       unfold allDig at g1 hpt ⊢
       rw [List.all_append, Bool.and_eq_true]
       exact ⟨g1.1, hpt⟩
     have hsz : (wh ++ pt).data.toList.length = (wh ++ pt).size := by simp
     obtain ⟨u, u1, u2, u3⟩ := digits_of (wh ++ pt).size (wh ++ pt).data.toList hsz hall
     have hsize : (wh ++ pt).size = wh.size + pt.size := ByteArray.size_append
     have hle : 10 ^ (wh ++ pt).size ≤ 10 ^ 18 := Nat.pow_le_pow_right (by decide) (by omega)
     have hu : Lib.parseUintB 64 (wh ++ pt).data.toList = .ok u := by
       unfold Lib.parseUintB
       rw [if_neg (by intro e; rw [e] at hsz; simp at hsz; omega)]
       exact uintM_of _ 0 u hall u1 (by omega)
     have hpl : pt.size ≤ pa.size := by
       have := congrArg List.length ht
       rw [List.length_append] at this
       have a1 : pa.data.toList.length = pa.size := by simp
       have a2 : pt.data.toList.length = pt.size := by simp
       omega
     have hwr := P.w1
     have hlen : dot = true → wh.size + 1 + pa.size = s.size := fun hd => by
       obtain ⟨q1, _, _, q4⟩ := P.w2 hd
       rw [← q4, ByteArray.size_extract, ← hsr]
       rw [← hsr] at q1
       omega
     have hnod : dot = false → pt.size = 0 := fun hd => by
       have hpa := (P.w3 hd).2
       rw [hpa] at hpl
       exact Nat.le_zero.1 hpl
     refine ⟨decS pt.size (u : Int) false, fun w hm => ?_, fun he => ?_⟩
     · rcases lead_ways g4 with l1 | ⟨l1, l2⟩
       · exact parse_Fo C dw dp l1 (by omega) (by omega) u hu (by omega) m w hm
       · exact parse_Ft C dw dp l1 l2 (by omega) (by omega) u hu (by omega) m w hm
     · rw [hsize] at u2
       rw [← hsr] at hwr
       cases hd : dot with
       | false =>
         have h0 := hnod hd
         exact num_dec u2 (by omega) (by omega) (by omega) (fun h => by omega) he
       | true =>
         have h0 := hlen hd
         exact num_dec u2 (by omega) (by omega) (by omega) (fun h => by omega) he
 · refine ⟨⟨0, 0, 5⟩, fun w hm => ?_, fun h => by cases h⟩
   cases dw : digB wh with
   | false => exact parse_A C dw m w hm
   | true =>
     by_cases hd : dot = true ∧ digB pa = false
     · exact parse_B C dw hd.1 hd.2 m w hm
     · have dp : dot = false ∨ dot = true ∧ digB pa = true := by
         cases hdt : dot with
         | false => exact .inl rfl
         | true =>
           cases hpa : digB pa with
           | true => exact .inr ⟨rfl, rfl⟩
           | false => exact absurd ⟨hdt, hpa⟩ hd
       by_cases hl : lead wh
       · refine parse_C C dw dp hl.1 ?_ m w hm
         have := hl.2
         rw [byteAt_eq wh 0 (by have := hl.1; omega)] at this
         rw [this]; rfl
       · exfalso
         have w0 := digB_iff.1 dw
         apply good
         refine ⟨⟨w0.2, fun hdt => ?_⟩, fun h => ?_, w0.1, hl⟩
         · rcases dp with h | ⟨_, h⟩
           · rw [hdt] at h; cases h
           · exact (digB_iff.1 h).2
         · rcases dp with h2 | ⟨_, h2⟩
           · rw [h.1] at h2; cases h2
           · exact (digB_iff.1 h2).1 h.2
end Go.Proofs.YtapilekangmcoaaGreatDoor
namespace Go.Proofs.YtapilekangmcoaaGreatDoor.Days
open Go.RowKit
open Go.Lib hiding intOf
theorem day_range {y m d : Int} (h : (dayR y m d).e = 0) : 0 ≤ (dayR y m d).n ∧ (dayR y m d).n ≤ 3652058 := by
 unfold dayR at h ⊢
 split at h
 · rename_i ok
   rw [if_pos ok]
   obtain ⟨a, b, c, e, f, g⟩ := ok
   obtain ⟨k, hk⟩ : ∃ k : Nat, m = (k : Int) + 1 := ⟨(m - 1).toNat, by omega⟩
   subst hk
   have h1 := cum_bd y k
   have h2 := cum_succ y k
   have h3 := cum_mono y (a := k + 1) (b := 12) (by omega)
   have h4 := cum_12 y
   have h5 := first_succ y
   have h6 := first_mono (a := y + 1) (b := 10000) (by omega)
   have h7 := first_10000
   have h8 := first_ge a
   have h9 := len_bd y ((k : Int) + 1)
   show 0 ≤ dayN _ _ _ ∧ dayN _ _ _ ≤ _
   unfold dayN
   rw [show ((k : Int) + 1 - 1).toNat = k by omega]
   omega
 · cases h
theorem days_form (s : ByteArray) (m : Int) (hs : s.size < 4294967281) : ∃ n e : Int, (∀ w : World, w.cell? ⟨5, 0, none⟩ = some (.int .i64 m) → Calls Tryz.prog 116 #[.string s] w fun x w' => x = .returned (.tuple #[.int .i64 n, .int .i64 e]) ∧ Below w.heap.size w w') ∧ (e = 0 → 0 ≤ n ∧ n ≤ 3652058) := by
 by_cases h2 : countB s ⟨#[45]⟩ = 2
 · obtain ⟨a, b, c, hp, l1, l2, l3⟩ := splitB_three h2
   refine ⟨_, _, fun w hm => parse_parts s a b c m hs (by omega) (by omega) (by omega) h2 hp w hm, fun h => ?_⟩
   unfold parseR at h ⊢
   split at h
   · rename_i hg
     rw [if_pos hg]
     exact day_range h
   · cases h
 · exact ⟨0, 5, fun w hm => parse_few s m _ hs rfl (by omega) w hm, fun h => by cases h⟩
theorem pd_bytes {k n : Nat} {x : UInt8} (h : x ∈ pd k n) : x ≠ 34 ∧ x ≠ 92 := by
 have h1 := allDig_pd k n
 unfold allDig at h1
 have h2 := of_decide_eq_true (List.all_eq_true.1 h1 x h)
 constructor
 · rintro rfl; exact absurd h2.1 (by decide)
 · rintro rfl; exact absurd h2.2 (by decide)
/-- A day's text is read as it. -/
theorem text_read (n : Int) (h0 : 0 ≤ n) (h1 : n ≤ 3652058) : ∃ l : Bs, l.length = 10 ∧ (∀ x ∈ l, x ≠ 34 ∧ x ≠ 92) ∧ (∀ w, Lib.TabIs Tryz.prog w "internal/strconv.uint64pow10" .u64 Lib.pow10Tab → Calls Tryz.prog 137 #[.int .i64 n] w fun x w' => x = .returned (.tuple #[.string (bs l), .int .i64 0]) ∧ Below w.heap.size w w') ∧ (∀ (q : Int) (w : World), w.cell? ⟨5, 0, none⟩ = some (.int .i64 q) → Calls Tryz.prog 116 #[.string (bs l)] w fun x w' => x = .returned (.tuple #[.int .i64 n, .int .i64 0]) ∧ Below w.heap.size w w') := by
 obtain ⟨y, m, a, b, c, d, e, f, g⟩ := date_of n h0 h1
 have hl := len_bd y ((m : Int) + 1)
 have hs := cum_succ y m
 have hok : okD y ((m : Int) + 1) (n - firstS y - cumS y m + 1) := ⟨a, b, by omega, by omega, by omega, by omega⟩
 have hn : dayN y ((m : Int) + 1) (n - firstS y - cumS y m + 1) = n := by
   unfold dayN
   rw [show ((m : Int) + 1 - 1).toNat = m by omega]
   omega
 have hr : dayR y ((m : Int) + 1) (n - firstS y - cumS y m + 1) = ⟨n, 0⟩ := by unfold dayR; rw [if_pos hok, hn]
 refine ⟨textL y.toNat (m + 1) (n - firstS y - cumS y m + 1).toNat, textL_length _ _ _, fun x hx => ?_, fun w ht => text_ok n y m h0 h1 a b c d e f g w ht, fun q w hm => ?_⟩
 · unfold textL at hx
   simp only [List.mem_append, List.mem_cons] at hx
   rcases hx with h | h | h | h | h
   · exact pd_bytes h
   · subst h; decide
   · exact pd_bytes h
   · subst h; decide
   · exact pd_bytes h
 · have := parse_text y.toNat (m + 1) (n - firstS y - cumS y m + 1).toNat (by omega) (by omega) (by omega) q _ rfl w hm
   rw [Int.toNat_of_nonneg (by omega), Int.toNat_of_nonneg (by omega), show (((m + 1 : Nat) : Int)) = (m : Int) + 1 by omega, hr] at this
   exact this
end Go.Proofs.YtapilekangmcoaaGreatDoor.Days
namespace Go.Proofs.YtapilekangmcoaaGreatDoor
open Go.RowKit
open Go.Lib hiding intOf
theorem qS_more : ∀ (k : Nat) (l : Bs) (p : Bs × Nat), l.length ≤ k → qS l = some p → p.1.length + 1 ≤ p.2
 | _, [], _, _, h => by simp [qS] at h
 | 0, c :: r, _, hk, _ => by simp at hk
 | k + 1, c :: r, p, hk, h => by
   rw [qS_cons] at h
   rw [List.length_cons] at hk
   by_cases h1 : c = 34
   · rw [if_pos h1] at h
     cases h
     simp
   · rw [if_neg h1] at h
     by_cases h2 : c = 92
     · rw [if_pos h2] at h
       cases r with
       | nil => cases h
       | cons d r2 =>
         simp only at h
         rw [List.length_cons] at hk
         by_cases h3 : d = 34 ∨ d = 92
         · rw [if_pos h3] at h
           cases hq : qS r2 with
           | none => rw [hq] at h; cases h
           | some q =>
             rw [hq] at h
             have := qS_more k r2 q (by omega) hq
             cases h
             simp only [List.length_cons]
             omega
         · rw [if_neg h3] at h; cases h
     · rw [if_neg h2] at h
       cases hq : qS r with
       | none => rw [hq] at h; cases h
       | some q =>
         rw [hq] at h
         have := qS_more k r q (by omega) hq
         cases h
         simp only [List.length_cons]
         omega
theorem figs_dig {x : UInt8} (h : 48 ≤ x.toNat ∧ x.toNat ≤ 57) : figs.contains x = true := by
 have h2 : x.toNat = 48 ∨ x.toNat = 49 ∨ x.toNat = 50 ∨ x.toNat = 51 ∨ x.toNat = 52 ∨ x.toNat = 53 ∨ x.toNat = 54 ∨ x.toNat = 55 ∨ x.toNat = 56 ∨ x.toNat = 57 := by omega
 rcases h2 with h | h | h | h | h | h | h | h | h | h
 · obtain rfl : x = 48 := UInt8.toNat_inj.1 h; rfl
 · obtain rfl : x = 49 := UInt8.toNat_inj.1 h; rfl
 · obtain rfl : x = 50 := UInt8.toNat_inj.1 h; rfl
 · obtain rfl : x = 51 := UInt8.toNat_inj.1 h; rfl
 · obtain rfl : x = 52 := UInt8.toNat_inj.1 h; rfl
 · obtain rfl : x = 53 := UInt8.toNat_inj.1 h; rfl
 · obtain rfl : x = 54 := UInt8.toNat_inj.1 h; rfl
 · obtain rfl : x = 55 := UInt8.toNat_inj.1 h; rfl
 · obtain rfl : x = 56 := UInt8.toNat_inj.1 h; rfl
 · obtain rfl : x = 57 := UInt8.toNat_inj.1 h; rfl
theorem figs_pd {k n : Nat} {x : UInt8} (h : x ∈ pd k n) : figs.contains x = true := by
 have h1 := allDig_pd k n
 unfold allDig at h1
 exact figs_dig (of_decide_eq_true (List.all_eq_true.1 h1 x h))
theorem runS_len {S : Bs} : ∀ {l : Bs}, (∀ x ∈ l, S.contains x = true) → runS S l = l.length
 | [], _ => rfl
 | c :: l, h => by
   rw [runS_cons, if_pos (h c (List.mem_cons_self ..)), runS_len fun x hx => h x (List.mem_cons_of_mem _ hx)]
   rfl
theorem numLen_text (N sc : Nat) : numLen (textU N sc) = (textU N sc).length := by
 unfold textU
 split
 · have h : ∀ x ∈ decDigits N, figs.contains x = true := fun x hx => by rw [dec_pd] at hx; exact figs_pd hx
   unfold numLen
   rw [runS_len h, List.drop_length, if_neg (by decide)]
 · rename_i h0
   obtain ⟨k, rfl⟩ : ∃ k, sc = k + 1 := ⟨sc - 1, by omega⟩
   have h : ∀ x ∈ decDigits (N / 10 ^ (k + 1)), figs.contains x = true := fun x hx => by rw [dec_pd] at hx; exact figs_pd hx
   have hp : runS figs (pd (k + 1) N) = (pd (k + 1) N).length := runS_len fun x hx => figs_pd hx
   have hd : dotted (46 :: pd (k + 1) N) = true := by
     rw [pd_cons]
     show figs.contains _ = true
     exact figs_pd (k := k + 1) (n := N) (by rw [pd_cons]; exact List.mem_cons_self ..)
   unfold numLen
   rw [runS_app figs (show figs.contains 46 = false from rfl), runS_len h, List.drop_left' rfl, if_pos hd]
   have hdr : (decDigits (N / 10 ^ (k + 1)) ++ 46 :: pd (k + 1) N).drop ((decDigits (N / 10 ^ (k + 1))).length + 1) = pd (k + 1) N := by
     rw [← List.drop_drop, List.drop_left' rfl]
     rfl
   rw [hdr, hp, List.length_append, List.length_cons]
   omega
theorem text_head (N sc : Nat) : ∃ c r, textU N sc = c :: r ∧ figs.contains c = true := by
 have h : ∀ M : Nat, ∃ c r, decDigits M = c :: r ∧ figs.contains c = true := fun M => by
   obtain ⟨k, hk⟩ : ∃ k, nDigits M = k + 1 := ⟨nDigits M - 1, by have := nDigits_pos M; omega⟩
   refine ⟨_, _, by rw [dec_pd, hk, pd_cons], ?_⟩
   exact figs_pd (k := k + 1) (n := M) (by rw [pd_cons]; exact List.mem_cons_self ..)
 unfold textU
 split
 · exact h N
 · obtain ⟨c, r, h1, h2⟩ := h (N / 10 ^ sc)
   exact ⟨c, _, by rw [h1]; rfl, h2⟩
theorem lxP_eq (m : Int) (w : World) (hw : OKW m w) (l : Bs) (hl : l.length ≤ 4000000) {a b c : Int} {Q : World → Prop}
   (h : Calls Tryz.prog 153 #[.string (bs l)] w fun e w' => e = .returned (.tuple #[.agg #[.int .i64 a, .int .i64 b], .int .i64 c]) ∧ Q w') : (lxP m l).n = a ∧ (lxP m l).s = b ∧ (lxP m l).e = c := by
 have h1 := (lx_ok m).P (bs l) l rfl hl w hw
 have h2 := calls_det (by kernel_rfl) h1 h
 simp at h2
 exact ⟨h2.1.1, h2.1.2, h2.2⟩
theorem lxD_eq (m : Int) (w : World) (hw : OKW m w) (l : Bs) (hl : l.length ≤ 4000000) {a c : Int} {Q : World → Prop}
   (h : Calls Tryz.prog 116 #[.string (bs l)] w fun e w' => e = .returned (.tuple #[.int .i64 a, .int .i64 c]) ∧ Q w') : (lxD m l).1 = a ∧ (lxD m l).2 = c := by
 have h1 := (lx_ok m).D (bs l) l rfl hl w hw
 have h2 := calls_det (by kernel_rfl) h1 h
 simp at h2
 exact h2
theorem yT_eq (m : Int) (w : World) (hw : OKW m w) (n : Int) {l : Bs} {c : Int} {Q : World → Prop}
   (h : Calls Tryz.prog 137 #[.int .i64 n] w fun e w' => e = .returned (.tuple #[.string (bs l), .int .i64 c]) ∧ Q w') : (yT n).1 = l ∧ (yT n).2 = c := by
 have h1 := (yT_spec n).2.1 w hw.tab
 have h2 := calls_det (by kernel_rfl) h1 h
 simp at h2
 refine ⟨?_, h2.2⟩
 have := congrArg (fun b : ByteArray => b.data.toList) h2.1
 exact this
theorem ok0 : I64 0 := ⟨by decide, by decide⟩
end Go.Proofs.YtapilekangmcoaaGreatDoor
namespace Go.Proofs.YtapilekangmcoaaGreatDoor
open Go.RowKit
open Go.Lib hiding intOf
/-- Tokens alike but for their places. -/
def like : List Tk → List Tk → Prop
 | [], [] => True
 | t :: a, u :: b => (u.k = t.k ∧ u.t = t.t ∧ u.n = t.n ∧ u.s = t.s ∧ u.m = t.m) ∧ like a b
 | _, _ => False
/-- A text has these tokens, wherever they stand. -/
def Reads (x : Lx) (l : Bs) (T : List Tk) : Prop := ∀ (a : Nat) (acc : List Tk), ∃ T', toksF x a l acc = ⟨acc ++ T', 0, 0⟩ ∧ like T T'
theorem reads_nil (x : Lx) : Reads x [] [] := fun a acc => ⟨[], by rw [toksF_nil, List.append_nil], trivial⟩
theorem reads_blank {x : Lx} {M : Bs} {T : List Tk} (h : Reads x M T) : Reads x (32 :: M) T := fun a acc => by
 rw [toksF_blank]
 exact h (a + 1) acc
theorem reads_tok {x : Lx} {o M : Bs} {t : Tk} {T : List Tk} (hn : nextS x o = ⟨t, o.length, 0⟩) (hw : runS whites o = 0) (hM : Stop M) (h : Reads x M T) : Reads x (o ++ M) (t :: T) := fun a acc => by
 obtain ⟨T', h1, h2⟩ := h (a + o.length) (acc ++ [{ t with a := a }])
 refine ⟨{ t with a := a } :: T', ?_, ⟨rfl, rfl, rfl, rfl, rfl⟩, h2⟩
 rw [toksF_tok hn hw hM, h1]
 simp
def sg (g : Bs) : Tk := ⟨5, 0, g, 0, 0, 0⟩
def nm (g : Bs) : Tk := ⟨4, 0, g, 0, 0, 0⟩
/-- A sign that does not hang on what follows. -/
theorem reads_sign {x : Lx} {g M : Bs} {T : List Tk} (hn : nextS x (g ++ M) = ⟨sg g, g.length, 0⟩) (hw : runS whites (g ++ M) = 0) (hg : g ≠ []) (h : Reads x M T) : Reads x (g ++ M) (sg g :: T) := fun a acc => by
 obtain ⟨T', h1, h2⟩ := h (a + g.length) (acc ++ [{ sg g with a := a }])
 refine ⟨{ sg g with a := a } :: T', ?_, ⟨rfl, rfl, rfl, rfl, rfl⟩, h2⟩
 obtain ⟨c, r, hc⟩ : ∃ c r, g ++ M = c :: r := by
   cases g with
   | nil => exact absurd rfl hg
   | cons c r => exact ⟨c, _, rfl⟩
 have hgo := toksA_go (x := x) (f := (g ++ M).length) (a := a) (l := g ++ M) (acc := acc) (c := c) (r := r) (by rw [hw, hc]; rfl) (by rw [← hc, hn])
 rw [← hc, hn, hw] at hgo
 have hd : (g ++ M).drop g.length = M := by simp
 rw [hd] at hgo
 have hgl : 1 ≤ g.length := by cases g with | nil => exact absurd rfl hg | cons c r => simp
 refine hgo.trans ?_
 rw [toksF_fuel x (by rw [List.length_append]; omega), show a + 0 + g.length = a + g.length by omega]
 refine h1.trans ?_
 simp
theorem reads_open {x : Lx} {M : Bs} {T : List Tk} (h : Reads x M T) : Reads x (40 :: M) (sg [40] :: T) := reads_sign (g := [40]) rfl rfl (by decide) h
theorem reads_close {x : Lx} {M : Bs} {T : List Tk} (h : Reads x M T) : Reads x (41 :: M) (sg [41] :: T) := reads_sign (g := [41]) rfl rfl (by decide) h
/-- May it be a value? -/
def vSound (v : Vl) : Prop :=
 (v.k = 0 ∧ v.n = 0 ∧ v.s = 0 ∧ v.t = [] ∧ v.m = 0) ∨ (v.k = 1 ∧ soundS v.n v.s = true ∧ v.t = [] ∧ v.m = 0) ∨ (v.k = 2 ∧ v.n = 0 ∧ v.s = 0 ∧ v.m = 0 ∧ v.t.length ≤ 256 ∧ goodS (bs v.t) = true) ∨ (v.k = 3 ∧ v.n = 0 ∧ v.s = 0 ∧ v.t = [] ∧ (v.m = 0 ∨ v.m = 1)) ∨ (v.k = 4 ∧ v.n = 0 ∧ v.s = 0 ∧ v.t = [] ∧ 0 ≤ v.m ∧ v.m ≤ 3652058)
/-- A value as it is written. -/
noncomputable def vtxt (v : Vl) : Bs :=
 if v.k = 1 then (dT v.n v.s).1 else if v.k = 2 then 34 :: (escB v.t ++ [34]) else if v.k = 3 then (if v.m = 0 then falseB else trueB) else if v.k = 4 then 64 :: 34 :: ((yT v.m).1 ++ [34]) else nullB
theorem num_next (m : Int) (w : World) (hw : OKW m w) (n s : Int) (h0 : ¬ n < 0) (sd : soundS n s = true) : nextS (lxX m) (textU n.toNat s.toNat) = ⟨⟨1, 0, [], n, s, 0⟩, (textU n.toNat s.toNat).length, 0⟩ ∧ runS whites (textU n.toNat s.toNat) = 0 := by
 obtain ⟨b1, b2, b3, b4, _⟩ := sound_bd sd
 have hm0 : decide (n < 0) = false := decide_eq_false h0
 have hmg : mag n = n := by unfold mag; rw [if_neg h0]
 obtain ⟨c', r', h1, h2⟩ := text_head n.toNat s.toNat
 have hnx : nextS (lxX m) (textU n.toNat s.toNat) = numS (lxX m) (textU n.toNat s.toNat) := by
   rw [h1]
   unfold nextS
   exact if_pos h2
 have hl := textU_len (N := n.toNat) (sc := s.toNat) (by omega) (by omega)
 refine ⟨?_, ?_⟩
 · rw [hnx]
   unfold numS
   rw [numLen_text, List.take_length]
   have hb := parse_back n s n.toNat s.toNat sd (by omega) (by rw [hmg]; omega) (bs (textU n.toNat s.toNat)) (by rw [hm0]; rfl) m w hw.hm
   obtain ⟨g1, g2, g3⟩ := lxP_eq m w hw _ (by omega) hb
   have hP : (lxX m).P (textU n.toNat s.toNat) = lxP m (textU n.toNat s.toNat) := rfl
   rw [hP, g1, g2, g3]
 · rw [h1, runS_cons]
   split
   · rename_i hc
     exfalso
     have h3 : c' = 32 ∨ c' = 9 ∨ c' = 13 ∨ c' = 10 := by
       rw [List.contains_iff_mem] at hc
       simpa [whites] using hc
     rcases h3 with rfl | rfl | rfl | rfl <;> cases h2
   · rfl
end Go.Proofs.YtapilekangmcoaaGreatDoor
namespace Go.Proofs.YtapilekangmcoaaGreatDoor
open Go.RowKit
/-- The parser stands ahead of these tokens. -/
structure On (p : PS) (T : List Tk) : Prop where
 e : p.e = 0
 le : p.nx ≤ p.L.length
 lk : like T (p.L.drop p.nx)
section
variable {p : PS} {t : Tk} {T : List Tk}
theorem On.get (h : On p (t :: T)) : ∃ u, p.L[p.nx]? = some u ∧ (u.k = t.k ∧ u.t = t.t ∧ u.n = t.n ∧ u.s = t.s ∧ u.m = t.m) ∧ like T (p.L.drop (p.nx + 1)) ∧ p.nx < p.L.length := by
 have h1 := h.lk
 cases hd : p.L.drop p.nx with
 | nil => rw [hd] at h1; exact h1.elim
 | cons u r =>
   rw [hd] at h1
   have hlt : p.nx < p.L.length := by
     have := congrArg List.length hd
     rw [List.length_drop, List.length_cons] at this
     omega
   have h2 := List.drop_eq_getElem_cons hlt
   rw [hd] at h2
   injection h2 with h3 h4
   refine ⟨u, by rw [List.getElem?_eq_getElem hlt, ← h3], h1.1, by rw [← h4]; exact h1.2, hlt⟩
theorem On.is_ (h : On p (t :: T)) (s : Bs) : p.isS s = ((t.k == 4 || t.k == 5) && t.t == s) := by
 obtain ⟨u, hu, ⟨g1, g2, _⟩, _⟩ := h.get
 rw [isS_some h.e hu, g1, g2]
theorem On.adv (h : On p (t :: T)) : On p.adv T := by
 obtain ⟨u, hu, _, g, hlt⟩ := h.get
 exact ⟨h.e, hlt, g⟩
theorem On.val (h : On p (t :: T)) : p.val = valT t := by
 obtain ⟨u, hu, ⟨g1, g2, g3, g4, g5⟩, _⟩ := h.get
 unfold PS.val
 rw [if_pos h.e, hu]
 simp only
 unfold valT
 rw [g1, g2, g3, g4, g5]
theorem On.need {s : Bs} (h : On p (sg s :: T)) : p.need s = p.adv ∧ On p.adv T := by
 refine ⟨?_, h.adv⟩
 unfold PS.need
 rw [h.is_]
 simp [sg]
end
end Go.Proofs.YtapilekangmcoaaGreatDoor
namespace Go.Proofs.YtapilekangmcoaaGreatDoor
open Go.RowKit
def Ex.op : Ex → Int | .mk o _ _ _ => o
def Ex.v : Ex → Vl | .mk _ v _ _ => v
def Ex.nm : Ex → Bs | .mk _ _ n _ => n
def Ex.kids : Ex → List Ex | .mk _ _ _ k => k
/-- The sign of an operator, and its level. -/
def signE (o : Int) : Bs :=
 if o = 4 then [43] else if o = 5 then [45] else if o = 6 then [42] else if o = 7 then [47] else if o = 8 then [61] else if o = 9 then [33, 61]
 else if o = 10 then [60] else if o = 11 then [60, 61] else if o = 12 then [62] else if o = 13 then [62, 61] else if o = 14 then [97, 110, 100] else [111, 114]
def lvlE (o : Int) : Nat := if o = 15 then 0 else if o = 14 then 1 else if 8 ≤ o then 2 else if o = 4 ∨ o = 5 then 3 else 4
def tokE (o : Int) : Tk := if 14 ≤ o then nm (signE o) else sg (signE o)
/-- May it be an expression, but for how deep it is, and how many parts it has? -/
inductive ES (W : Bs → Bool) : Ex → Prop where
 | val (v : Vl) (h : vSound v) (h0 : 0 ≤ v.n) : ES W (.mk 1 v [] [])
 | name (s : Bs) (h : W s = true) : ES W (.mk 2 zeroV s [])
 | neg (a : Ex) (h : ES W a) : ES W (.mk 3 zeroV [] [a])
 | bin (o : Int) (a b : Ex) (h4 : 4 ≤ o) (h15 : o ≤ 15) (ha : ES W a) (hb : ES W b) : ES W (.mk o zeroV [] [a, b])
 | not (a : Ex) (h : ES W a) : ES W (.mk 16 zeroV [] [a])
 | ife (a b c : Ex) (ha : ES W a) (hb : ES W b) (hc : ES W c) : ES W (.mk 17 zeroV [] [a, b, c])
/-- How deep, and how many parts. -/
def dep : Ex → Nat
 | .mk _ _ _ [] => 1
 | .mk _ _ _ [a] => 1 + dep a
 | .mk _ _ _ [a, b] => 1 + max (dep a) (dep b)
 | .mk _ _ _ (a :: b :: c :: _) => 1 + max (dep a) (max (dep b) (dep c))
def cnt : Ex → Nat
 | .mk _ _ _ [] => 1
 | .mk _ _ _ [a] => 1 + cnt a
 | .mk _ _ _ [a, b] => 1 + cnt a + cnt b
 | .mk _ _ _ (a :: b :: c :: _) => 1 + cnt a + cnt b + cnt c
theorem lev_cases (P : Nat → Prop) (h0 : P 0) (h1 : P 1) (h2 : P 2) (h3 : P 3) (h4 : ∀ n, P (n + 4)) : ∀ n, P n
 | 0 => h0
 | 1 => h1
 | 2 => h2
 | 3 => h3
 | n + 4 => h4 n
theorem op_cases {o : Int} (h4 : 4 ≤ o) (h15 : o ≤ 15) (P : Int → Prop) (p4 : P 4) (p5 : P 5) (p6 : P 6) (p7 : P 7) (p8 : P 8) (p9 : P 9) (p10 : P 10) (p11 : P 11) (p12 : P 12) (p13 : P 13) (p14 : P 14) (p15 : P 15) : P o := by
 have : o = 4 ∨ o = 5 ∨ o = 6 ∨ o = 7 ∨ o = 8 ∨ o = 9 ∨ o = 10 ∨ o = 11 ∨ o = 12 ∨ o = 13 ∨ o = 14 ∨ o = 15 := by omega
 rcases this with rfl | rfl | rfl | rfl | rfl | rfl | rfl | rfl | rfl | rfl | rfl | rfl <;> assumption
theorem lvl_le {o : Int} : lvlE o ≤ 4 := by
 unfold lvlE
 (repeat' split) <;> omega
theorem On.md {p : PS} {T : List Tk} (h : On p T) (z : Int) : On { p with md := z } T := ⟨h.e, h.le, h.lk⟩
theorem On.deep {p : PS} {T : List Tk} (h : On p T) {d : Nat} (hd : d ≤ 64) : p.deep d = p := by
 unfold PS.deep
 rw [if_neg (by omega)]
end Go.Proofs.YtapilekangmcoaaGreatDoor
namespace Go.Proofs.YtapilekangmcoaaGreatDoor
open Go.RowKit
def brT (k : List Ex) (l : Bs) : Bs := if k.isEmpty then l else 40 :: (l ++ [41])
/-- An expression as it is written. -/
noncomputable def etxt : Ex → Bs
 | .mk o v s [] => if o = 1 then vtxt v else s
 | .mk o _ _ [a] => if o = 3 then 45 :: brT a.kids (etxt a) else bNot ++ 40 :: (etxt a ++ [41])
 | .mk o _ _ [a, b] => brT a.kids (etxt a) ++ 32 :: (signE o ++ 32 :: brT b.kids (etxt b))
 | .mk _ _ _ (a :: b :: c :: _) => bIf ++ 32 :: (brT a.kids (etxt a) ++ 32 :: (bThen ++ 32 :: (brT b.kids (etxt b) ++ 32 :: (bElse ++ 32 :: brT c.kids (etxt c)))))
theorem let_all (c : UInt8) : letB c.toNat = lets.contains c := all_bytes (p := fun c => letB c.toNat = lets.contains c) (by decide +kernel) c
theorem nm_all (c : UInt8) : nmB c = (lets ++ figs).contains c := all_bytes (p := fun c => nmB c = (lets ++ figs).contains c) (by decide +kernel) c
theorem let_kind (c : UInt8) : lets.contains c = true → figs.contains c = false ∧ ¬ c = 34 ∧ ¬ c = 64 ∧ whites.contains c = false :=
 all_bytes (p := fun c => lets.contains c = true → figs.contains c = false ∧ ¬ c = 34 ∧ ¬ c = 64 ∧ whites.contains c = false) (by decide +kernel) c
theorem word_parts {s : Bs} (h : wordB s = true) : ∃ c r, s = c :: r ∧ lets.contains c = true ∧ s.length ≤ 32 ∧ (∀ d ∈ s, (lets ++ figs).contains d = true) ∧ wordsL.contains s = false := by
 unfold wordB at h
 rw [Bool.and_eq_true] at h
 obtain ⟨h1, h2⟩ := h
 match s, h1, h2 with
 | c :: r, h1, h2 =>
   unfold nameB at h1
   rw [Bool.and_eq_true, Bool.and_eq_true] at h1
   obtain ⟨⟨g1, g2⟩, g3⟩ := h1
   refine ⟨c, r, rfl, by rw [← let_all]; exact g2, of_decide_eq_true g1, fun d hd => ?_, by simpa using h2⟩
   rw [← nm_all]
   exact List.all_eq_true.1 g3 d hd
theorem runS_of_all {S : Bs} : ∀ {l : Bs}, (∀ d ∈ l, S.contains d = true) → runS S l = l.length
 | [], _ => rfl
 | c :: r, h => by
   rw [runS_cons, if_pos (h c (List.mem_cons_self ..)), runS_of_all fun d hd => h d (List.mem_cons_of_mem _ hd)]
   rfl
theorem word_next {s : Bs} (h : wordB s = true) (x : Lx) : nextS x s = ⟨nm s, s.length, 0⟩ ∧ runS whites s = 0 := by
 obtain ⟨c, r, e, h1, h2, h3, h4⟩ := word_parts h
 obtain ⟨f1, f2, f3, f4⟩ := let_kind c h1
 have hr := runS_of_all h3
 subst e
 refine ⟨?_, ?_⟩
 · unfold nextS
   simp only
   rw [if_neg (by rw [f1]; decide), if_neg f2, if_neg f3, if_pos h1]
   unfold nameS
   rw [hr, if_neg (by omega), List.take_length]
   rfl
 · rw [runS_cons, if_neg (by rw [f4]; decide)]
theorem tokE_next {o : Int} (h4 : 4 ≤ o) (h15 : o ≤ 15) (x : Lx) : nextS x (signE o) = ⟨tokE o, (signE o).length, 0⟩ ∧ runS whites (signE o) = 0 :=
 op_cases h4 h15 (fun o => nextS x (signE o) = ⟨tokE o, (signE o).length, 0⟩ ∧ runS whites (signE o) = 0) ⟨rfl, rfl⟩ ⟨rfl, rfl⟩ ⟨rfl, rfl⟩ ⟨rfl, rfl⟩ ⟨rfl, rfl⟩ ⟨rfl, rfl⟩ ⟨rfl, rfl⟩ ⟨rfl, rfl⟩ ⟨rfl, rfl⟩ ⟨rfl, rfl⟩ ⟨rfl, rfl⟩ ⟨rfl, rfl⟩
/-- All tokens have to be taken, and the expression has to be one that is not too deep. -/
def outE (x : Ex) (p : PS) (ok : Bool) : Ex × Int × Int := if p.fin.e = 0 then (if ok = true then (x, 0, 0) else (zeroE, 0, 9)) else (zeroE, p.fin.a, p.fin.e)
end Go.Proofs.YtapilekangmcoaaGreatDoor
namespace Go.Proofs.YtapilekangmcoaaGreatDoor
open Go.RowKit
/-- No more parts than tokens that are taken. -/
structure Inv (c : Int) (p : PS) : Prop where
 md : p.md + c ≤ p.nx
 le : p.nx ≤ p.L.length
section
variable {c : Int} {p : PS} {W : Bs → Bool}
theorem fail_p (p : PS) (k : Int) : (p.fail k).md = p.md ∧ (p.fail k).nx = p.nx ∧ (p.fail k).L = p.L ∧ (p.fail k).en = p.en := by
 unfold PS.fail
 split <;> exact ⟨rfl, rfl, rfl, rfl⟩
theorem Inv.fail (h : Inv c p) (k : Int) : Inv c (p.fail k) := by
 obtain ⟨h1, h2, h3, _⟩ := fail_p p k
 exact ⟨by rw [h1, h2]; exact h.md, by rw [h2, h3]; exact h.le⟩
theorem Inv.adv (h : Inv c p) (hn : p.nx < p.L.length) : Inv (c + 1) p.adv := ⟨by have := h.md; show p.md + (c + 1) ≤ ((p.nx + 1 : Nat) : Int); omega, hn⟩
theorem Inv.less (h : Inv (c + 1) p) : Inv c p := ⟨by have := h.md; omega, h.le⟩
theorem Inv.need (h : Inv c p) (s : Bs) : Inv c (p.need s) ∧ (p.need s).L = p.L := by
 unfold PS.need
 split
 · rename_i hs
   exact ⟨(h.adv (isS_lt hs).2).less, rfl⟩
 · exact ⟨h.fail 5, (fail_p p 5).2.2.1⟩
theorem made_L (p : PS) : p.made.L = p.L := by
 unfold PS.made
 split
 · exact (fail_p _ _).2.2.1
 · rfl
theorem made_nx (p : PS) : p.made.nx = p.nx := by
 unfold PS.made
 split
 · exact (fail_p _ _).2.1
 · rfl
theorem made_md (p : PS) : p.made.md = p.md + 1 := by
 unfold PS.made
 split
 · exact (fail_p _ _).1
 · rfl
theorem Inv.made (h : Inv (c + 1) p) : Inv c p.made := ⟨by rw [made_md, made_nx]; have := h.md; omega, by rw [made_nx, made_L]; exact h.le⟩
theorem Inv.deep (h : Inv c p) (d : Nat) : Inv c (p.deep d) ∧ (p.deep d).L = p.L := by
 unfold PS.deep
 split
 · exact ⟨h.fail 9, (fail_p p 9).2.2.1⟩
 · exact ⟨h, rfl⟩
theorem oper_lt {n : Nat} {o : Int} (h : p.oper n = some o) : p.e = 0 ∧ p.nx < p.L.length := by
 unfold PS.oper at h
 cases hf : (levelS n).1.find? (fun g => p.isS g.1) with
 | none => rw [hf] at h; cases h
 | some g => exact isS_lt (s := g.1) (List.find?_some (p := fun g : Bs × Int => p.isS g.1) hf)
theorem val_lt {v : Vl} (h : p.val = some v) : p.e = 0 ∧ p.nx < p.L.length := by
 unfold PS.val at h
 split at h
 · rename_i he
   refine ⟨he, ?_⟩
   split at h
   · cases h
   · rename_i t ht
     exact (List.getElem?_eq_some_iff.1 ht).1
 · cases h
theorem inv_all (W : Bs → Bool) : ∀ f,
   (∀ (p : PS) (d : Nat) (c : Int), Inv c p → Inv c (exprF W f p d).2 ∧ (exprF W f p d).2.L = p.L) ∧
   (∀ (p : PS) (d n : Nat) (c : Int), Inv c p → Inv c (chainF W f p d n).2 ∧ (chainF W f p d n).2.L = p.L) ∧
   (∀ (x : Ex) (p : PS) (d n : Nat) (c : Int), Inv c p → Inv c (moreF W f x p d n).2 ∧ (moreF W f x p d n).2.L = p.L) ∧
   (∀ (p : PS) (d : Nat) (c : Int), Inv c p → Inv c (prefixF W f p d).2 ∧ (prefixF W f p d).2.L = p.L)
 | 0 => by
   refine ⟨fun p d c h => ?_, fun p d n c h => ?_, fun x p d n c h => ?_, fun p d c h => ?_⟩
   · unfold exprF; exact ⟨h, rfl⟩
   · unfold chainF; exact ⟨h, rfl⟩
   · unfold moreF; exact ⟨h, rfl⟩
   · unfold prefixF; exact ⟨h, rfl⟩
 | f + 1 => by
   obtain ⟨hE, hC, hM, hP⟩ := inv_all W f
   refine ⟨fun p d c h => ?_, fun p d n c h => ?_, fun x p d n c h => ?_, fun p d c h => ?_⟩
   · obtain ⟨h1, h2⟩ := h.deep d
     unfold exprF
     split
     · rename_i hc
       obtain ⟨a1, a2⟩ := hE (p.deep d).adv d (c + 1) (h1.adv (isS_lt hc.2).2)
       obtain ⟨b1, b2⟩ := a1.need bThen
       obtain ⟨c1, c2⟩ := hE _ d (c + 1) b1
       obtain ⟨d1, d2⟩ := c1.need bElse
       obtain ⟨e1, e2⟩ := hE _ d (c + 1) d1
       refine ⟨e1.made, ?_⟩
       dsimp only
       rw [made_L, e2, d2, c2, b2, a2]
       exact h2
     · obtain ⟨a1, a2⟩ := hC (p.deep d) d 0 c h1
       exact ⟨a1, a2.trans h2⟩
   · unfold chainF
     split
     · exact hP p d c h
     · obtain ⟨a1, a2⟩ := hC p d (n + 1) c h
       obtain ⟨b1, b2⟩ := hM _ _ d n c a1
       exact ⟨b1, b2.trans a2⟩
   · unfold moreF
     split
     · split
       · exact ⟨h, rfl⟩
       · rename_i o ho
         obtain ⟨a1, a2⟩ := hC p.adv d (n + 1) (c + 1) (h.adv (oper_lt ho).2)
         dsimp only
         split
         · exact ⟨a1.made, by dsimp only; rw [made_L, a2]; rfl⟩
         · obtain ⟨b1, b2⟩ := hM (.mk o zeroV [] [x, (chainF W f p.adv d (n + 1)).1]) _ d n c a1.made
           exact ⟨b1, by rw [b2, made_L, a2]; rfl⟩
     · exact ⟨h, rfl⟩
   · unfold prefixF
     split
     · split
       · rename_i hs
         obtain ⟨a1, a2⟩ := hP p.adv d (c + 1) (h.adv (isS_lt hs).2)
         exact ⟨a1.made, by dsimp only; rw [made_L, a2]; rfl⟩
       · split
         · rename_i hs
           obtain ⟨a1, a2⟩ := hE p.adv (d + 1) c (h.adv (isS_lt hs).2).less
           obtain ⟨b1, b2⟩ := a1.need [41]
           exact ⟨b1, by dsimp only; rw [b2, a2]; rfl⟩
         · split
           · rename_i hs
             obtain ⟨z1, z2⟩ := (h.adv (isS_lt hs).2).need [40]
             obtain ⟨a1, a2⟩ := hE (p.adv.need [40]) (d + 1) (c + 1) z1
             obtain ⟨b1, b2⟩ := a1.need [41]
             exact ⟨b1.made, by dsimp only; rw [made_L, b2, a2, z2]; rfl⟩
           · split
             · rename_i v hv
               exact ⟨(h.adv (val_lt hv).2).made, by dsimp only; rw [made_L]; rfl⟩
             · split
               · exact ⟨h.fail 5, (fail_p p 5).2.2.1⟩
               · rename_i t ht
                 split
                 · have hn := (List.getElem?_eq_some_iff.1 ht).1
                   refine ⟨⟨?_, ?_⟩, ?_⟩
                   · show p.made.md + c ≤ ((p.made.nx + 1 : Nat) : Int)
                     rw [made_md, made_nx]
                     have := h.md
                     omega
                   · show p.made.nx + 1 ≤ p.made.L.length
                     rw [made_nx, made_L]
                     exact hn
                   · show p.made.L = p.L
                     exact made_L p
                 · exact ⟨h.fail 5, (fail_p p 5).2.2.1⟩
     · exact ⟨h, rfl⟩
/-- The second parser goes through the same tokens, k behind, with a bracket after them, and has made z parts more. -/
structure Sm (k : Nat) (z : Int) (p q : PS) : Prop where
 e : p.e = 0
 e' : q.e = 0
 nx : q.nx = p.nx + k
 le : p.nx ≤ p.L.length
 inn : ∀ i t, p.L[i]? = some t → ∃ u, q.L[i + k]? = some u ∧ u.k = t.k ∧ u.t = t.t ∧ u.n = t.n ∧ u.s = t.s ∧ u.m = t.m
 fin : ∃ u, q.L[p.L.length + k]? = some u ∧ u.k = 5 ∧ u.t = [41]
 md : q.md = p.md + z
 room : p.md ≤ p.nx
 big : (p.L.length : Int) + z + 1 ≤ 4096
 pos : (p.L.length : Int) + 1 ≤ 4096
end
section
variable {k : Nat} {z : Int} {p q : PS} {W : Bs → Bool}
theorem Sm.at_end (h : Sm k z p q) (hn : ¬ p.nx < p.L.length) : p.L[p.nx]? = none ∧ ∃ u, q.L[q.nx]? = some u ∧ u.k = 5 ∧ u.t = [41] := by
 have : p.nx = p.L.length := by have := h.le; omega
 refine ⟨List.getElem?_eq_none (by omega), ?_⟩
 rw [h.nx, this]
 exact h.fin
theorem Sm.at_in (h : Sm k z p q) (hn : p.nx < p.L.length) : ∃ t u, p.L[p.nx]? = some t ∧ q.L[q.nx]? = some u ∧ u.k = t.k ∧ u.t = t.t ∧ u.n = t.n ∧ u.s = t.s ∧ u.m = t.m := by
 obtain ⟨u, hu⟩ := h.inn p.nx _ (List.getElem?_eq_getElem hn)
 exact ⟨_, u, List.getElem?_eq_getElem hn, by rw [h.nx]; exact hu.1, hu.2⟩
theorem Sm.is_ (h : Sm k z p q) {s : Bs} (hs : s ≠ [41]) : q.isS s = p.isS s := by
 by_cases hn : p.nx < p.L.length
 · obtain ⟨t, u, ht, hu, e1, e2, _⟩ := h.at_in hn
   rw [isS_some h.e ht, isS_some h.e' hu, e1, e2]
 · obtain ⟨h1, u, hu, e1, e2⟩ := h.at_end hn
   rw [isS_none h1, isS_some h.e' hu, e1, e2]
   have : (([41] : Bs) == s) = false := by simpa using fun e => hs e.symm
   rw [this, Bool.and_false]
theorem Sm.is_in (h : Sm k z p q) (hn : p.nx < p.L.length) (s : Bs) : q.isS s = p.isS s := by
 obtain ⟨t, u, ht, hu, e1, e2, _⟩ := h.at_in hn
 rw [isS_some h.e ht, isS_some h.e' hu, e1, e2]
theorem Sm.oper (h : Sm k z p q) (n : Nat) : q.oper n = p.oper n := by
 unfold PS.oper
 have : (levelS n).1.find? (fun g => q.isS g.1) = (levelS n).1.find? (fun g => p.isS g.1) := by
   have hne : ∀ g ∈ (levelS n).1, g.1 ≠ [41] := lev_cases (fun n => ∀ g ∈ (levelS n).1, g.1 ≠ [41]) (by decide) (by decide) (by decide) (by decide) (fun n => by show ∀ g ∈ (levelS 4).1, g.1 ≠ [41]; decide) n
   generalize (levelS n).1 = l at hne ⊢
   induction l with
   | nil => rfl
   | cons g r ih =>
     rw [List.find?_cons, List.find?_cons, h.is_ (hne g (List.mem_cons_self ..)), ih fun g hg => hne g (List.mem_cons_of_mem _ hg)]
 rw [this]
theorem Sm.adv (h : Sm k z p q) (hn : p.nx < p.L.length) : Sm k z p.adv q.adv :=
 ⟨h.e, h.e', by show q.nx + 1 = p.nx + 1 + k; rw [h.nx]; omega, hn, h.inn, h.fin, h.md, by have := h.room; show p.md ≤ ((p.nx + 1 : Nat) : Int); omega, h.big, h.pos⟩
theorem Sm.need (h : Sm k z p q) {s : Bs} (he : (p.need s).e = 0) : Sm k z (p.need s) (q.need s) := by
 unfold PS.need at he ⊢
 by_cases hs : p.isS s = true
 · have hn := (isS_lt hs).2
   rw [if_pos hs, if_pos (by rw [h.is_in hn]; exact hs)]
   exact h.adv hn
 · rw [if_neg hs] at he
   exact absurd he (fail_e (by decide))
theorem Sm.val (h : Sm k z p q) : q.val = p.val := by
 unfold PS.val
 rw [if_pos h.e, if_pos h.e']
 by_cases hn : p.nx < p.L.length
 · obtain ⟨t, u, ht, hu, e1, e2, e3, e4, e5⟩ := h.at_in hn
   rw [ht, hu]
   simp only
   unfold valT
   rw [e1, e2, e3, e4, e5]
 · obtain ⟨h1, u, hu, e1, e2⟩ := h.at_end hn
   rw [h1, hu]
   simp only
   unfold valT
   rw [e1, e2]
   rfl
theorem Sm.made (h : Sm k z p q) (hr : p.md + 1 ≤ p.nx) : Sm k z p.made q.made ∧ p.made = { p with md := p.md + 1 } := by
 have h1 := h.big
 have h2 := h.md
 have h3 := h.le
 have e1 : p.made = { p with md := p.md + 1 } := by unfold PS.made; rw [if_neg (by have := h.pos; omega)]
 have e2 : q.made = { q with md := q.md + 1 } := by unfold PS.made; rw [if_neg (by omega)]
 refine ⟨?_, e1⟩
 rw [e1, e2]
 exact ⟨h.e, h.e', h.nx, h.le, h.inn, h.fin, by show q.md + 1 = p.md + 1 + z; omega, hr, h.big, h.pos⟩
end
end Go.Proofs.YtapilekangmcoaaGreatDoor
namespace Go.Proofs.YtapilekangmcoaaGreatDoor
open Go.RowKit
section
variable {k : Nat} {z : Int} {p q : PS} {W : Bs → Bool} {f d n : Nat} {x : Ex} {s : Bs}
theorem Sm.inv (h : Sm k z p q) (hn : p.nx < p.L.length) : Inv 1 p.adv := ⟨by have := h.room; show p.md + 1 ≤ ((p.nx + 1 : Nat) : Int); omega, hn⟩
end
end Go.Proofs.YtapilekangmcoaaGreatDoor
namespace Go.Proofs.YtapilekangmcoaaGreatDoor
open Go.RowKit
/-- What the expression of a text is. -/
def exprS (x : Lx) (F : Nat) (ok : Ex → Bool) (l : Bs) : Ex × Int × Int :=
 outE (exprF wordB F (newP (toksS x l) l.length) 1).1 (exprF wordB F (newP (toksS x l) l.length) 1).2 (ok (exprF wordB F (newP (toksS x l) l.length) 1).1)
theorem on_new {x : Lx} {l : Bs} {T : List Tk} (hl : l.length ≤ 65536) (h : Reads x l T) : On (newP (toksS x l) l.length) T ∧ (newP (toksS x l) l.length).md = 0 := by
 obtain ⟨T', h1, h2⟩ := h 0 []
 have h3 : toksS x l = ⟨T', 0, 0⟩ := by
   unfold toksS
   rw [if_neg (by omega)]
   exact h1
 rw [h3]
 exact ⟨⟨rfl, Nat.zero_le _, h2⟩, rfl⟩
end Go.Proofs.YtapilekangmcoaaGreatDoor
namespace Go.Proofs.YtapilekangmcoaaGreatDoor
open Go.RowKit
section
variable {p : PS} {s : Bs} {t : Tk} {W : Bs → Bool}
end
end Go.Proofs.YtapilekangmcoaaGreatDoor
namespace Go.Proofs.YtapilekangmcoaaGreatDoor
open Go.RowKit
def Ink (l : Bs) : Prop := ∃ c ∈ l, c ≠ 45 ∧ whites.contains c = false
theorem Ink.mono {l m : Bs} (h : Ink l) (hs : ∀ c ∈ l, c ∈ m) : Ink m := by
 obtain ⟨c, hc, h1⟩ := h
 exact ⟨c, hs c hc, h1⟩
theorem vtxt_len {v : Vl} (hv : vSound v) : (vtxt v).length ≤ 514 := by
 obtain ⟨k, n, s, t, mm⟩ := v
 rcases hv with ⟨h1, h2, h3, h4, h5⟩ | ⟨h1, h2, h3, h4⟩ | ⟨h1, h2, h3, h4, h5, h6⟩ | ⟨h1, h2, h3, h4, h5⟩ | ⟨h1, h2, h3, h4, h5, h6⟩
 · simp only at h1
   subst h1
   exact (by decide : nullB.length ≤ 514)
 · simp only at h1
   subst h1
   have := dT_len n s
   simp only [vtxt, if_true]
   omega
 · simp only at h1 h5
   subst h1
   have := escB_two t
   simp [vtxt]
   omega
 · simp only at h1 h5
   subst h1
   rcases h5 with rfl | rfl <;> simp [vtxt, falseB, trueB]
 · simp only at h1
   subst h1
   have := (yT_spec mm).1
   simp [vtxt]
   omega
end Go.Proofs.YtapilekangmcoaaGreatDoor
namespace Go.Proofs.YtapilekangmcoaaGreatDoor
open Go.RowKit
open Go.Lib hiding intOf
/-- A token's value is sound. -/
def tkOK (t : Tk) : Prop := (t.k = 1 → 0 ≤ t.n ∧ soundS t.n t.s = true) ∧ (t.k = 2 → t.t.length ≤ 256 ∧ goodS (bs t.t) = true) ∧ (t.k = 3 → 0 ≤ t.m ∧ t.m ≤ 3652058)
theorem tk_1 {n s : Int} {t : Bs} (h : 0 ≤ n ∧ soundS n s = true) : tkOK ⟨1, 0, t, n, s, 0⟩ := ⟨fun _ => h, (fun h => absurd (show (1 : Int) = 2 from h) (by decide)), (fun h => absurd (show (1 : Int) = 3 from h) (by decide))⟩
theorem tk_2 {t : Bs} (h : t.length ≤ 256 ∧ goodS (bs t) = true) : tkOK ⟨2, 0, t, 0, 0, 0⟩ := ⟨(fun h => absurd (show (2 : Int) = 1 from h) (by decide)), fun _ => h, (fun h => absurd (show (2 : Int) = 3 from h) (by decide))⟩
theorem tk_3 {t : Bs} {m : Int} (h : 0 ≤ m ∧ m ≤ 3652058) : tkOK ⟨3, 0, t, 0, 0, m⟩ := ⟨(fun h => absurd (show (3 : Int) = 1 from h) (by decide)), (fun h => absurd (show (3 : Int) = 2 from h) (by decide)), fun _ => h⟩
theorem tk_45 {t : Tk} (h : t.k = 4 ∨ t.k = 5) : tkOK t := ⟨(fun _ => by omega), (fun _ => by omega), (fun _ => by omega)⟩
theorem tk_num (m : Int) (w : World) (hw : OKW m w) (c : UInt8) (r : Bs) (hl : (c :: r).length ≤ 100000) (hc : figs.contains c = true) (he : (numS (lxX m) (c :: r)).e = 0) : tkOK (numS (lxX m) (c :: r)).t := by
 have hn := numLen_le (c :: r)
 obtain ⟨k, hk⟩ : ∃ k, numLen (c :: r) = k := ⟨_, rfl⟩
 have hk1 : 1 ≤ k := by
   rw [← hk]
   unfold numLen
   have := runS_head (l := r) hc
   split <;> omega
 unfold numS at he ⊢
 rw [hk] at he hn ⊢
 obtain ⟨q, hq⟩ : ∃ q, (c :: r).take k = q := ⟨_, rfl⟩
 have hql : q.length = k := by rw [← hq, List.length_take]; omega
 have h45 : byteAt (bs q) 0 ≠ 45 := by
   obtain ⟨j, rfl⟩ : ∃ j, k = j + 1 := ⟨k - 1, by omega⟩
   rw [← hq]
   show c ≠ 45
   rintro rfl
   cases hc
 rw [hq] at he ⊢
 obtain ⟨R, hR, hok⟩ := reads_num (bs q) m (by rw [bs_size]; omega) h45
 obtain ⟨e1, e2, e3⟩ := lxP_eq m w hw q (by omega) (hR w hw.hm)
 have he2 : R.e = 0 := e3.symm.trans he
 obtain ⟨n0, sd, _⟩ := hok he2
 have hP : (lxX m).P q = lxP m q := rfl
 rw [hP, e1, e2]
 exact tk_1 ⟨n0, sd⟩
theorem tk_str (m : Int) (r : Bs) (he : (strS (lxX m) r).e = 0) : tkOK (strS (lxX m) r).t := by
 unfold strS at he ⊢
 cases hq : qS r with
 | none => rw [hq] at he; cases he
 | some p =>
   rw [hq] at he
   simp only at he ⊢
   split at he
   · cases he
   · rename_i hc
     rw [if_neg hc]
     have hG : ¬ (lxX m).G p.1 = false := fun h => hc (.inr h)
     have hG2 : (lxX m).G p.1 = goodS (bs p.1) := rfl
     rw [hG2] at hG
     exact tk_2 ⟨by omega, by simpa using hG⟩
theorem tk_date (m : Int) (w : World) (hw : OKW m w) (r : Bs) (hl : r.length ≤ 100000) (he : (dateS (lxX m) r).e = 0) : tkOK (dateS (lxX m) r).t := by
 unfold dateS at he ⊢
 cases hq : quoD r with
 | none => rw [hq] at he; cases he
 | some p =>
   rw [hq] at he
   simp only at he ⊢
   split at he
   · cases he
   · rename_i hc
     rw [if_neg hc]
     have h11 : p.2 = 11 := Classical.byContradiction fun hn => hc (.inr hn)
     have hD : ((lxX m).D p.1).2 = 0 := Classical.byContradiction fun hn => hc (.inl hn)
     have hpl : p.1.length + 1 ≤ p.2 := by
       unfold quoD at hq
       split at hq
       · exact qS_more _ _ p (Nat.le_refl _) hq
       · cases hq
     obtain ⟨n, e, hn, hr⟩ := Days.days_form (bs p.1) m (by rw [bs_size]; omega)
     obtain ⟨e1, e2⟩ := lxD_eq m w hw p.1 (by omega) (hn w hw.hm)
     have hDe : (lxX m).D p.1 = lxD m p.1 := rfl
     rw [hDe] at hD ⊢
     obtain ⟨d0, d1⟩ := hr (e2.symm.trans hD)
     rw [e1]
     exact tk_3 ⟨d0, d1⟩
theorem tk_next (m : Int) (w : World) (hw : OKW m w) (l : Bs) (hl : l.length ≤ 100000) (he : (nextS (lxX m) l).e = 0) : tkOK (nextS (lxX m) l).t := by
 match l with
 | [] => cases he
 | c :: r =>
   have hr : r.length ≤ 100000 := by rw [List.length_cons] at hl; omega
   unfold nextS at he ⊢
   simp only at he ⊢
   by_cases h1 : figs.contains c = true
   · rw [if_pos h1] at he ⊢
     exact tk_num m w hw c r hl h1 he
   · rw [if_neg h1] at he ⊢
     by_cases h2 : c = 34
     · rw [if_pos h2] at he ⊢
       exact tk_str m r he
     · rw [if_neg h2] at he ⊢
       by_cases h3 : c = 64
       · rw [if_pos h3] at he ⊢
         exact tk_date m w hw r hr he
       · rw [if_neg h3] at he ⊢
         by_cases h4 : lets.contains c = true
         · rw [if_pos h4] at he ⊢
           unfold nameS at he ⊢
           split at he
           · cases he
           · rename_i h
             rw [if_neg h]
             exact tk_45 (.inl rfl)
         · rw [if_neg h4] at he ⊢
           unfold signS at he ⊢
           cases hf : signsL.find? (fun g => g.isPrefixOf (c :: r)) with
           | none => rw [hf] at he; cases he
           | some g => exact tk_45 (.inr rfl)
theorem toksA_ok (m : Int) (w : World) (hw : OKW m w) (N : Nat) : ∀ (f a : Nat) (l : Bs) (acc : List Tk), l.length ≤ 100000 → a + l.length ≤ N → (∀ t ∈ acc, tkOK t ∧ t.a ≤ N) →
   (∀ t ∈ (toksA (lxX m) f a l acc).l, tkOK t ∧ t.a ≤ N) ∧ (toksA (lxX m) f a l acc).n ≤ N ∧ (toksA (lxX m) f a l acc).l.length ≤ acc.length + l.length
 | 0, a, l, acc, _, _, ha => ⟨ha, Nat.zero_le _, Nat.le_add_right _ _⟩
 | f + 1, a, l, acc, hl, hN, ha => by
   cases hd : l.drop (runS whites l) with
   | nil => rw [toksA_end hd]; exact ⟨ha, Nat.zero_le _, Nat.le_add_right _ _⟩
   | cons c r =>
     have hld := len_drop hd
     by_cases hn : (nextS (lxX m) (c :: r)).e = 0
     · have hbd := next_bd (lxX m) _ hn
       have hdl : ((c :: r).drop (nextS (lxX m) (c :: r)).n).length + (nextS (lxX m) (c :: r)).n = (c :: r).length := by rw [List.length_drop]; omega
       rw [toksA_go hd hn]
       have hk := tk_next m w hw (c :: r) (by omega) hn
       obtain ⟨g1, g2, g3⟩ := toksA_ok m w hw N f (a + runS whites l + (nextS (lxX m) (c :: r)).n) ((c :: r).drop (nextS (lxX m) (c :: r)).n) (acc ++ [{ (nextS (lxX m) (c :: r)).t with a := a + runS whites l }]) (by omega) (by omega) (fun t ht => by
         rcases List.mem_append.1 ht with h | h
         · exact ha t h
         · rw [List.mem_singleton.1 h]
           exact ⟨hk, show a + runS whites l ≤ N by omega⟩)
       refine ⟨g1, g2, ?_⟩
       rw [List.length_append, List.length_cons, List.length_nil] at g3
       omega
     · have : toksA (lxX m) (f + 1) a l acc = ⟨[], a + runS whites l, (nextS (lxX m) (c :: r)).e⟩ := toksA_bad hd hn
       rw [this]
       exact ⟨(fun t h => by cases h), show a + runS whites l ≤ N by omega, Nat.zero_le _⟩
theorem toksS_ok (m : Int) (w : World) (hw : OKW m w) (l : Bs) : (∀ t ∈ (toksS (lxX m) l).l, tkOK t ∧ t.a ≤ l.length) ∧ (toksS (lxX m) l).n ≤ l.length ∧ (toksS (lxX m) l).l.length ≤ 65536 := by
 unfold toksS
 split
 · exact ⟨(fun t h => by cases h), Nat.zero_le _, Nat.zero_le _⟩
 · obtain ⟨g1, g2, g3⟩ := toksA_ok m w hw l.length (l.length + 1) 0 l [] (by omega) (by omega) (fun t h => by cases h)
   rw [List.length_nil] at g3
   exact ⟨g1, g2, by omega⟩
end Go.Proofs.YtapilekangmcoaaGreatDoor
namespace Go.Proofs.YtapilekangmcoaaGreatDoor
open Go.RowKit
/-- A parser of sound tokens, and its places lie in the text. -/
structure POK (N : Nat) (p : PS) : Prop where
 en : p.en ≤ N
 lo : 0 ≤ p.a
 hi : p.a ≤ N
 tk : ∀ t ∈ p.L, tkOK t ∧ t.a ≤ N
section
variable {N : Nat} {p : PS}
theorem POK.at_ (h : POK N p) : 0 ≤ p.at' ∧ p.at' ≤ N := by
 unfold PS.at'
 split
 · have := h.en
   omega
 · rename_i t ht
   have := (h.tk t (List.mem_of_getElem? ht)).2
   omega
theorem POK.fail (h : POK N p) (c : Int) : POK N (p.fail c) := by
 unfold PS.fail
 split
 · exact ⟨h.en, h.at_.1, h.at_.2, h.tk⟩
 · exact h
theorem POK.adv (h : POK N p) : POK N p.adv := ⟨h.en, h.lo, h.hi, h.tk⟩
theorem POK.take (h : POK N p) (s : Bs) : POK N (p.take s) := by
 unfold PS.take
 split
 · exact h.adv
 · exact h
theorem POK.need (h : POK N p) (s : Bs) : POK N (p.need s) := by
 unfold PS.need
 split
 · exact h.adv
 · exact h.fail 5
theorem POK.lit (h : POK N p) : POK N p.lit.2 := by
 unfold PS.lit
 split
 · exact (h.take _).fail 5
 · split
   · split
     · exact (h.take _).adv
     · exact (h.take _).fail 5
   · exact (h.take _).adv
theorem POK.close (h : POK N p) : POK N p.close := by
 unfold PS.close
 split
 · exact h.adv
 · exact h.fail 5
theorem POK.fin (h : POK N p) : POK N p.fin := by
 unfold PS.fin
 split
 · exact h.fail 5
 · exact h
theorem valT_vs {t : Tk} {v : Vl} (ht : tkOK t) (h : valT t = some v) : vSound v := by
 unfold valT at h
 split at h
 · rename_i h1
   injection h with h
   subst h
   exact .inr (.inl ⟨rfl, (ht.1 h1).2, rfl, rfl⟩)
 · split at h
   · rename_i h2
     injection h with h
     subst h
     exact .inr (.inr (.inl ⟨rfl, rfl, rfl, rfl, (ht.2.1 h2).1, (ht.2.1 h2).2⟩))
   · split at h
     · rename_i h3
       injection h with h
       subst h
       exact .inr (.inr (.inr (.inr ⟨rfl, rfl, rfl, rfl, (ht.2.2 h3).1, (ht.2.2 h3).2⟩)))
     · split at h
       · injection h with h
         subst h
         exact .inr (.inr (.inr (.inl ⟨rfl, rfl, rfl, rfl, .inr rfl⟩)))
       · split at h
         · injection h with h
           subst h
           exact .inr (.inr (.inr (.inl ⟨rfl, rfl, rfl, rfl, .inl rfl⟩)))
         · split at h
           · injection h with h
             subst h
             exact .inl ⟨rfl, rfl, rfl, rfl, rfl⟩
           · cases h
theorem val_vs (h : POK N p) {v : Vl} (hv : p.val = some v) : vSound v := by
 unfold PS.val at hv
 split at hv
 · split at hv
   · cases hv
   · rename_i t ht
     exact valT_vs (h.tk t (List.mem_of_getElem? ht)).1 hv
 · cases hv
end
end Go.Proofs.YtapilekangmcoaaGreatDoor
namespace Go.Proofs.YtapilekangmcoaaGreatDoor
open Go.RowKit
section
variable {N : Nat} {p : PS}
theorem POK.md (h : POK N p) (z : Int) : POK N { p with md := z } := ⟨h.en, h.lo, h.hi, h.tk⟩
theorem POK.made (h : POK N p) : POK N p.made := by
 unfold PS.made
 split
 · exact (h.md _).fail 10
 · exact h.md _
theorem POK.deep (h : POK N p) (d : Nat) : POK N (p.deep d) := by
 unfold PS.deep
 split
 · exact h.fail 9
 · exact h
theorem pok_all (W : Bs → Bool) (N : Nat) : ∀ f,
   (∀ (p : PS) (d : Nat), POK N p → POK N (exprF W f p d).2) ∧
   (∀ (p : PS) (d n : Nat), POK N p → POK N (chainF W f p d n).2) ∧
   (∀ (x : Ex) (p : PS) (d n : Nat), POK N p → POK N (moreF W f x p d n).2) ∧
   (∀ (p : PS) (d : Nat), POK N p → POK N (prefixF W f p d).2)
 | 0 => by
   refine ⟨fun p d h => ?_, fun p d n h => ?_, fun x p d n h => ?_, fun p d h => ?_⟩
   · unfold exprF; exact h
   · unfold chainF; exact h
   · unfold moreF; exact h
   · unfold prefixF; exact h
 | f + 1 => by
   obtain ⟨hE, hC, hM, hP⟩ := pok_all W N f
   refine ⟨fun p d h => ?_, fun p d n h => ?_, fun x p d n h => ?_, fun p d h => ?_⟩
   · unfold exprF
     split
     · exact (hE _ d ((hE _ d ((hE _ d (h.deep d).adv).need _)).need _)).made
     · exact hC _ d 0 (h.deep d)
   · unfold chainF
     split
     · exact hP p d h
     · exact hM _ _ d n (hC p d (n + 1) h)
   · unfold moreF
     split
     · split
       · exact h
       · dsimp only
         split
         · exact (hC _ d (n + 1) h.adv).made
         · exact hM _ _ d n (hC _ d (n + 1) h.adv).made
     · exact h
   · unfold prefixF
     split
     · split
       · exact (hP _ d h.adv).made
       · split
         · exact (hE _ (d + 1) h.adv).need _
         · split
           · exact ((hE _ (d + 1) (h.adv.need _)).need _).made
           · split
             · exact h.adv.made
             · split
               · exact h.fail 5
               · split
                 · exact h.made.adv
                 · exact h.fail 5
     · exact h
end
end Go.Proofs.YtapilekangmcoaaGreatDoor
namespace Go.Proofs.YtapilekangmcoaaGreatDoor
open Go.RowKit
theorem ex_ind {P : Ex → Prop} (h : ∀ o v s kids, (∀ k ∈ kids, P k) → P (.mk o v s kids)) : ∀ x, P x
 | .mk o v s kids => h o v s kids fun k hk => have _h := hk; ex_ind h k
termination_by x => SizeOf.sizeOf x
decreasing_by
 have := List.sizeOf_lt_of_mem hk
 simp
 omega
mutual
/-- What the law's big answers. -/
def bigS : Ex → Nat → Int → Int
 | .mk _ _ _ kids, d, l => if 80 < d then -1 else bigL kids (d + 1) (l - 1)
def bigL : List Ex → Nat → Int → Int
 | [], _, l => l
 | k :: r, d, l => if 0 ≤ l then bigL r d (bigS k d l) else l
end
/-- How many parts an operator has. -/
def kidsN (o : Int) : Int := if o = 1 ∨ o = 2 then 0 else if o = 3 ∨ o = 16 then 1 else if o = 17 then 3 else if 4 ≤ o ∧ o ≤ 15 then 2 else -1
/-- May it have this value and this name? -/
def okP (o : Int) (v : Vl) (s : Bs) : Prop := (if o = 2 then wordB s = true else s = []) ∧ if o = 1 then vSound v ∧ 0 ≤ v.n else v = zeroV
open Classical in
noncomputable def okE (o : Int) (v : Vl) (s : Bs) : Bool := decide (okP o v s)
open Classical in
theorem okE_iff {o : Int} {v : Vl} {s : Bs} : okE o v s = true ↔ okP o v s := decide_eq_true_iff
mutual
/-- What expr.sound answers, and how many may still come. -/
noncomputable def sndE : Ex → Nat → Int → Bool × Int
 | .mk o v s kids, d, l => if d ≤ 64 ∧ 0 ≤ l - 1 ∧ (kids.length : Int) = kidsN o ∧ okE o v s = true then sndL kids (d + 1) (l - 1) else (false, l - 1)
noncomputable def sndL : List Ex → Nat → Int → Bool × Int
 | [], _, l => (true, l)
 | k :: r, d, l => if (sndE k d l).1 = true then sndL r d (sndE k d l).2 else (false, (sndE k d l).2)
end
/-- Whether it may be an expression. -/
noncomputable def soundX (x : Ex) : Bool := (sndE x 1 4096).1
theorem kids_len {kids : List Ex} {o : Int} (h : (kids.length : Int) = kidsN o) : (kids = [] ∧ (o = 1 ∨ o = 2)) ∨ (∃ a, kids = [a] ∧ (o = 3 ∨ o = 16)) ∨ (∃ a b, kids = [a, b] ∧ 4 ≤ o ∧ o ≤ 15) ∨ ∃ a b c, kids = [a, b, c] ∧ o = 17 := by
 unfold kidsN at h
 split at h
 · rename_i ho
   exact .inl ⟨List.eq_nil_of_length_eq_zero (by omega), ho⟩
 · split at h
   · rename_i ho
     match kids, h with
     | [], h => simp at h
     | [a], _ => exact .inr (.inl ⟨a, rfl, ho⟩)
     | _ :: _ :: _, h => simp at h; omega
   · split at h
     · rename_i ho
       match kids, h with
       | [], h => simp at h
       | [_], h => simp at h
       | [_, _], h => simp at h
       | [a, b, c], _ => exact .inr (.inr (.inr ⟨a, b, c, rfl, ho⟩))
       | _ :: _ :: _ :: _ :: _, h => simp at h; omega
     · split at h
       · rename_i ho
         match kids, h with
         | [], h => simp at h
         | [_], h => simp at h
         | [a, b], _ => exact .inr (.inr (.inl ⟨a, b, rfl, ho⟩))
         | _ :: _ :: _ :: _, h => simp at h; omega
       · omega
theorem okP_1 {o : Int} {v : Vl} {s : Bs} (h : okE o v s = true) (h1 : ¬ o = 1) (h2 : ¬ o = 2) : v = zeroV ∧ s = [] := by
 obtain ⟨g1, g2⟩ := okE_iff.1 h
 rw [if_neg h2] at g1
 rw [if_neg h1] at g2
 exact ⟨g2, g1⟩
theorem sndE_true : ∀ (x : Ex) (d : Nat) (l : Int), (sndE x d l).1 = true → ES wordB x ∧ d + dep x ≤ 65 ∧ (sndE x d l).2 = l - (cnt x : Nat) ∧ 0 ≤ (sndE x d l).2 := by
 intro x
 induction x using ex_ind with
 | h o v s kids ih =>
   intro d l h
   rw [sndE] at h ⊢
   by_cases hc : d ≤ 64 ∧ 0 ≤ l - 1 ∧ (kids.length : Int) = kidsN o ∧ okE o v s = true
   · rw [if_pos hc] at h ⊢
     obtain ⟨c1, c2, c3, c4⟩ := hc
     rcases kids_len c3 with ⟨rfl, ho⟩ | ⟨a, rfl, ho⟩ | ⟨a, b, rfl, h4, h15⟩ | ⟨a, b, c, rfl, ho⟩
     · obtain ⟨g1, g2⟩ : okP o v s := okE_iff.1 c4
       refine ⟨?_, by simp [dep]; omega, by simp [sndL, cnt], by simpa [sndL] using c2⟩
       rcases ho with rfl | rfl
       · rw [if_neg (by decide)] at g1
         rw [if_pos rfl] at g2
         subst g1
         exact .val v g2.1 g2.2
       · rw [if_pos rfl] at g1
         rw [if_neg (by decide)] at g2
         subst g2
         exact .name s g1
     · obtain ⟨rfl, rfl⟩ := okP_1 c4 (by omega) (by omega)
       simp only [sndL] at h ⊢
       by_cases ha : (sndE a (d + 1) (l - 1)).1 = true
       · rw [if_pos ha] at h ⊢
         obtain ⟨e1, e2, e3, e4⟩ := ih a (by simp) _ _ ha
         refine ⟨?_, by simp [dep]; omega, by rw [e3]; simp [cnt]; omega, e4⟩
         rcases ho with rfl | rfl
         · exact .neg a e1
         · exact .not a e1
       · rw [if_neg ha] at h
         cases h
     · obtain ⟨rfl, rfl⟩ := okP_1 c4 (by omega) (by omega)
       simp only [sndL] at h ⊢
       by_cases ha : (sndE a (d + 1) (l - 1)).1 = true
       · rw [if_pos ha] at h ⊢
         obtain ⟨e1, e2, e3, e4⟩ := ih a (by simp) _ _ ha
         by_cases hb : (sndE b (d + 1) (sndE a (d + 1) (l - 1)).2).1 = true
         · rw [if_pos hb] at h ⊢
           obtain ⟨k1, k2, k3, k4⟩ := ih b (by simp) _ _ hb
           exact ⟨.bin o a b h4 h15 e1 k1, by simp [dep]; omega, by rw [k3, e3]; simp [cnt]; omega, k4⟩
         · rw [if_neg hb] at h
           cases h
       · rw [if_neg ha] at h
         cases h
     · subst ho
       obtain ⟨rfl, rfl⟩ := okP_1 c4 (by omega) (by omega)
       simp only [sndL] at h ⊢
       by_cases ha : (sndE a (d + 1) (l - 1)).1 = true
       · rw [if_pos ha] at h ⊢
         obtain ⟨e1, e2, e3, e4⟩ := ih a (by simp) _ _ ha
         by_cases hb : (sndE b (d + 1) (sndE a (d + 1) (l - 1)).2).1 = true
         · rw [if_pos hb] at h ⊢
           obtain ⟨k1, k2, k3, k4⟩ := ih b (by simp) _ _ hb
           by_cases hcc : (sndE c (d + 1) (sndE b (d + 1) (sndE a (d + 1) (l - 1)).2).2).1 = true
           · rw [if_pos hcc] at h ⊢
             obtain ⟨m1, m2, m3, m4⟩ := ih c (by simp) _ _ hcc
             exact ⟨.ife a b c e1 k1 m1, by simp [dep]; omega, by rw [m3, k3, e3]; simp [cnt]; omega, m4⟩
           · rw [if_neg hcc] at h
             cases h
         · rw [if_neg hb] at h
           cases h
       · rw [if_neg ha] at h
         cases h
   · rw [if_neg hc] at h
     cases h
theorem okE_0 {o : Int} (h1 : ¬ o = 1) (h2 : ¬ o = 2) : okE o zeroV [] = true := okE_iff.2 ⟨by rw [if_neg h2], by rw [if_neg h1]⟩
theorem sndE_of {x : Ex} (hx : ES wordB x) : ∀ (d : Nat) (l : Int), d + dep x ≤ 65 → (cnt x : Nat) ≤ l → sndE x d l = (true, l - (cnt x : Nat)) := by
 induction hx with
 | val v h h0 =>
   intro d l h1 h2
   simp only [dep, cnt] at h1 h2
   rw [sndE, if_pos ⟨by omega, by omega, rfl, okE_iff.2 ⟨rfl, h, h0⟩⟩]
   simp [sndL, cnt]
 | name s h =>
   intro d l h1 h2
   simp only [dep, cnt] at h1 h2
   rw [sndE, if_pos ⟨by omega, by omega, rfl, okE_iff.2 ⟨h, rfl⟩⟩]
   simp [sndL, cnt]
 | neg a h ih =>
   intro d l h1 h2
   simp only [dep, cnt] at h1 h2
   rw [sndE, if_pos ⟨by omega, by omega, rfl, okE_0 (by decide) (by decide)⟩]
   simp only [sndL]
   rw [ih _ _ (by omega) (by omega)]
   simp [cnt]
   omega
 | not a h ih =>
   intro d l h1 h2
   simp only [dep, cnt] at h1 h2
   rw [sndE, if_pos ⟨by omega, by omega, rfl, okE_0 (by decide) (by decide)⟩]
   simp only [sndL]
   rw [ih _ _ (by omega) (by omega)]
   simp [cnt]
   omega
 | bin o a b h4 h15 ha hb iha ihb =>
   intro d l h1 h2
   simp only [dep, cnt] at h1 h2
   have hk : kidsN o = 2 := by unfold kidsN; rw [if_neg (by omega), if_neg (by omega), if_neg (by omega), if_pos ⟨h4, h15⟩]
   rw [sndE, if_pos ⟨by omega, by omega, by rw [hk]; rfl, okE_0 (by omega) (by omega)⟩]
   simp only [sndL]
   rw [iha _ _ (by omega) (by omega)]
   simp only [if_true]
   rw [ihb _ _ (by omega) (by omega)]
   simp [cnt]
   omega
 | ife a b c ha hb hc iha ihb ihc =>
   intro d l h1 h2
   simp only [dep, cnt] at h1 h2
   rw [sndE, if_pos ⟨by omega, by omega, rfl, okE_0 (by decide) (by decide)⟩]
   simp only [sndL]
   rw [iha _ _ (by omega) (by omega)]
   simp only [if_true]
   rw [ihb _ _ (by omega) (by omega)]
   simp only [if_true]
   rw [ihc _ _ (by omega) (by omega)]
   simp [cnt]
   omega
/-- What is sound. -/
theorem soundX_iff (x : Ex) : soundX x = true ↔ ES wordB x ∧ dep x ≤ 64 ∧ cnt x ≤ 4096 := by
 constructor
 · intro h
   obtain ⟨h1, h2, h3, h4⟩ := sndE_true x 1 4096 h
   exact ⟨h1, by omega, by omega⟩
 · rintro ⟨h1, h2, h3⟩
   unfold soundX
   rw [sndE_of h1 1 4096 (by omega) (by omega)]
mutual
/-- The names in an expression. -/
def nmsE : Ex → List Bs
 | .mk o _ s kids => (if o = 2 then [s] else []) ++ nmsL kids
def nmsL : List Ex → List Bs
 | [] => []
 | k :: r => nmsE k ++ nmsL r
end
mutual
/-- Is a name in an expression? -/
def hasE (n : Bs) : Ex → Bool
 | .mk o _ s kids => if o = 2 ∧ s = n then true else hasL n kids
def hasL (n : Bs) : List Ex → Bool
 | [] => false
 | k :: r => if hasE n k = true then true else hasL n r
end
theorem has_mem (n : Bs) : ∀ x, hasE n x = true ↔ n ∈ nmsE x := by
 intro x
 induction x using ex_ind with
 | h o v s kids ih =>
   have hL : hasL n kids = true ↔ n ∈ nmsL kids := by
     induction kids with
     | nil => simp [hasL, nmsL]
     | cons k r ihr =>
       rw [hasL, nmsL, List.mem_append, ← ih k (by simp), ← ihr fun k hk => ih k (by simp [hk])]
       by_cases h : hasE n k = true <;> simp [h]
   rw [hasE, nmsE, List.mem_append, ← hL]
   by_cases h2 : o = 2
   · by_cases hs : s = n
     · subst hs; simp [h2]
     · have : ¬ n = s := fun e => hs e.symm
       simp [h2, hs, this]
   · simp [h2]
theorem nms_len {x : Ex} (hx : ES wordB x) : (nmsE x).length ≤ cnt x := by
 induction hx with
 | val v h h0 => simp [nmsE, nmsL, cnt]
 | name s h => simp [nmsE, nmsL, cnt]
 | neg a h ih => simp [nmsE, nmsL, cnt]; omega
 | not a h ih => simp [nmsE, nmsL, cnt]; omega
 | bin o a b h4 h15 ha hb iha ihb =>
   have : ¬ o = 2 := by omega
   simp [nmsE, nmsL, cnt, this]
   omega
 | ife a b c ha hb hc iha ihb ihc => simp [nmsE, nmsL, cnt]; omega
end Go.Proofs.YtapilekangmcoaaGreatDoor
namespace Go.Proofs.YtapilekangmcoaaGreatDoor
open Go.RowKit
/-- a + 2 * -b = 3 and not(c) -/
def akB : Bs := [97, 32, 43, 32, 50, 32, 42, 32, 45, 98, 32, 61, 32, 51, 32, 97, 110, 100, 32, 110, 111, 116, 40, 99, 41]
def akT : Bs := [40, 40, 97, 32, 43, 32, 40, 50, 32, 42, 32, 40, 45, 98, 41, 41, 41, 32, 61, 32, 51, 41, 32, 97, 110, 100, 32, 40, 110, 111, 116, 40, 99, 41, 41]
def akV (n : Int) : Vl := ⟨1, n, 0, [], 0⟩
def akN (c : UInt8) : Ex := .mk 2 zeroV [c] []
def akX : Ex := .mk 14 zeroV [] [.mk 8 zeroV [] [.mk 4 zeroV [] [akN 97, .mk 6 zeroV [] [.mk 1 (akV 2) [] [], .mk 3 zeroV [] [akN 98]]], .mk 1 (akV 3) [] []], .mk 16 zeroV [] [akN 99]]
def nu (n : Int) : Tk := ⟨1, 0, [], n, 0, 0⟩
def akL : List Tk := [nm [97], sg [43], nu 2, sg [42], sg [45], nm [98], sg [61], nu 3, nm [97, 110, 100], nm bNot, sg [40], nm [99], sg [41]]
theorem ak_word {c : UInt8} (h : wordB [c] = true) {x : Lx} {M : Bs} {T : List Tk} (hM : Stop M) (hT : Reads x M T) : Reads x (c :: M) (nm [c] :: T) := by
 obtain ⟨h1, h2⟩ := word_next h x
 exact reads_tok (o := [c]) h1 h2 hM hT
theorem stop_blank (M : Bs) : Stop (32 :: M) := stop_of (by decide) (by decide) (by decide)
theorem ak_reads (m : Int) (w : World) (hw : OKW m w) : Reads (lxX m) akB akL := by
 have n2 := num_next m w hw 2 0 (by decide) (by decide)
 have n3 := num_next m w hw 3 0 (by decide) (by decide)
 have t2 : textU (2 : Int).toNat (0 : Int).toNat = [50] := by decide +kernel
 have t3 : textU (3 : Int).toNat (0 : Int).toNat = [51] := by decide +kernel
 rw [t2] at n2
 rw [t3] at n3
 refine ak_word (c := 97) (by decide) (stop_blank _) (reads_blank ?_)
 refine reads_sign (g := [43]) rfl rfl (by decide) (reads_blank ?_)
 refine reads_tok (o := [50]) n2.1 n2.2 (stop_blank _) (reads_blank ?_)
 refine reads_sign (g := [42]) rfl rfl (by decide) (reads_blank ?_)
 refine reads_sign (g := [45]) rfl rfl (by decide) ?_
 refine ak_word (c := 98) (by decide) (stop_blank _) (reads_blank ?_)
 refine reads_sign (g := [61]) rfl rfl (by decide) (reads_blank ?_)
 refine reads_tok (o := [51]) n3.1 n3.2 (stop_blank _) (reads_blank ?_)
 refine reads_tok (o := [97, 110, 100]) (tokE_next (o := 14) (by decide) (by decide) _).1 rfl (stop_blank _) (reads_blank ?_)
 refine reads_tok (o := [110, 111, 116]) rfl rfl (stop_of (by decide) (by decide) (by decide)) ?_
 refine reads_open (ak_word (c := 99) (by decide) (stop_of (by decide) (by decide) (by decide)) (reads_close (reads_nil _)))
theorem like_cons {t : Tk} {T L : List Tk} (h : like (t :: T) L) : ∃ a L', L = { t with a := a } :: L' ∧ like T L' := by
 match L, h with
 | u :: L', ⟨⟨h1, h2, h3, h4, h5⟩, h6⟩ =>
   obtain ⟨k, a, t', n, s, m⟩ := u
   simp only at h1 h2 h3 h4 h5
   subst h1 h2 h3 h4 h5
   exact ⟨a, L', rfl, h6⟩
theorem like_nil {L : List Tk} (h : like [] L) : L = [] := by
 match L, h with
 | [], _ => rfl
theorem ak_expr (a0 a1 a2 a3 a4 a5 a6 a7 a8 a9 a10 a11 a12 en a : Nat) (p : PS) (hp : p = ⟨[{ nm [97] with a := a0 }, { sg [43] with a := a1 }, { nu 2 with a := a2 }, { sg [42] with a := a3 }, { sg [45] with a := a4 }, { nm [98] with a := a5 }, { sg [61] with a := a6 }, { nu 3 with a := a7 }, { nm [97, 110, 100] with a := a8 }, { nm bNot with a := a9 }, { sg [40] with a := a10 }, { nm [99] with a := a11 }, { sg [41] with a := a12 }], 0, en, (a : Int), 0, 0⟩) :
   exprF wordB 600000 p 1 = (akX, { p with nx := 13, md := 11 }) := by
 subst hp
 kernel_rfl
theorem ak_sound : soundX akX = true := (soundX_iff akX).2 ⟨.bin 14 _ _ (by decide) (by decide) (.bin 8 _ _ (by decide) (by decide) (.bin 4 _ _ (by decide) (by decide) (.name _ (by decide)) (.bin 6 _ _ (by decide) (by decide) (.val _ (.inr (.inl ⟨rfl, by decide, rfl, rfl⟩)) (by decide)) (.neg _ (.name _ (by decide))))) (.val _ (.inr (.inl ⟨rfl, by decide, rfl, rfl⟩)) (by decide))) (.not _ (.name _ (by decide))), by decide, by decide⟩
theorem ak_parse (m : Int) (w : World) (hw : OKW m w) : exprS (lxX m) 600000 soundX akB = (akX, 0, 0) := by
 obtain ⟨hon, hmd⟩ := on_new (by decide) (ak_reads m w hw)
 have hlk := hon.lk
 have hnx : (newP (toksS (lxX m) akB) akB.length).nx = 0 := rfl
 have he := hon.e
 unfold exprS
 generalize hP : newP (toksS (lxX m) akB) akB.length = p at hlk hnx he hmd ⊢
 obtain ⟨L, nx, en, a, e, md⟩ := p
 simp only at hnx he hmd hlk
 subst hnx he hmd
 rw [List.drop_zero] at hlk
 obtain ⟨a0, L0, rfl, l0⟩ := like_cons hlk
 obtain ⟨a1, L1, rfl, l1⟩ := like_cons l0
 obtain ⟨a2, L2, rfl, l2⟩ := like_cons l1
 obtain ⟨a3, L3, rfl, l3⟩ := like_cons l2
 obtain ⟨a4, L4, rfl, l4⟩ := like_cons l3
 obtain ⟨a5, L5, rfl, l5⟩ := like_cons l4
 obtain ⟨a6, L6, rfl, l6⟩ := like_cons l5
 obtain ⟨a7, L7, rfl, l7⟩ := like_cons l6
 obtain ⟨a8, L8, rfl, l8⟩ := like_cons l7
 obtain ⟨a9, L9, rfl, l9⟩ := like_cons l8
 obtain ⟨a10, L10, rfl, l10⟩ := like_cons l9
 obtain ⟨a11, L11, rfl, l11⟩ := like_cons l10
 obtain ⟨a12, L12, rfl, l12⟩ := like_cons l11
 obtain rfl := like_nil l12
 have ha : a = (((toksS (lxX m) akB).n : Nat) : Int) := (congrArg PS.a hP).symm
 rw [ak_expr a0 a1 a2 a3 a4 a5 a6 a7 a8 a9 a10 a11 a12 en _ _ (by rw [ha])]
 dsimp only
 rw [ak_sound]
 exact rfl
theorem ak_text : etxt akX = akT := by
 unfold akX akN
 simp only [etxt]
 decide +kernel
/-- What Text answers. -/
noncomputable def textX (x : Ex) : Bs × Int := if soundX x = true then (if 65536 < (etxt x).length then ([], 10) else (etxt x, 0)) else ([], 2)
end Go.Proofs.YtapilekangmcoaaGreatDoor
namespace Go.Proofs.YtapilekangmcoaaGreatDoor
open Go.RowKit
set_option maxHeartbeats 4000000 in
theorem newp_any (m : Int) (s : ByteArray) (l : Bs) (hl : s.data.toList = l) (w : World) (hw : OKW m w) :
   Calls Tryz.prog 24 #[.string s] w fun e w' => ∃ b A c, e = .returned (.pointer (some ⟨b, 0, none⟩)) ∧ w.heap.size ≤ b ∧ PB w' b A c (newP (toksS (lxX m) l) l.length) ∧ Below w.heap.size w w' := by
 have H1 := Lib.hid (tokens_all (lxX m) m (lx_ok m) s l hl w hw)
 obtain ⟨T, hT⟩ : ∃ T, toksS (lxX m) l = T := ⟨_, rfl⟩
 have hbig : T.l.length ≤ 100000 := by have := (toksS_ok m w hw l).2.2; rw [hT] at this; omega
 have hsz : (s.size : Int) = (l.length : Int) := by rw [← hl]; simp
 rw [hT] at H1 ⊢
 have HB := Lib.hid hbig
 have HS := Lib.hid hsz
 clear hl hw hT hbig hsz
 go_enter Tryz.func24, Tryz.ntmps24
 go_wp2_with fail
 refine H1.out.mono ?_
 rintro e w1 ⟨⟨A, c, rfl, hTM, hc, hcm⟩, hb1⟩
 have K1 := Lib.hid hTM
 clear hTM
 go_wp2_with fail
 go_returns
 refine ⟨w1.heap.size, A, c, rfl, hb1.size, ⟨?_, ?_, ?_, Nat.zero_le _, HB.out⟩, by (repeat' first | (with_reducible first | exact .refl _ _ | assumption | apply balloc | apply Below.drew | apply bset | refine bstep ?_ ‹_› | refine bturn ?_ ‹_› ?_) | go_size)⟩
 · rw [HS.out]
   exact Blk.new _ _ _
 · exact K1.out.step ((Below.refl _ _).alloc (Nat.le_refl _) _)
 · rintro i t g o ht rfl
   obtain ⟨g', o', e', hc'⟩ := K1.out i t ht
   injection e' with e'
   injection e' with e1 e2
   have := block_lt_of_cell (hc' 0 _ rfl)
   simp only at this
   omega
theorem value_none (b : Nat) (A : Option Addr) (c : Nat) (p : PS) (w : World) (h : PB w b A c p) (hv : ¬ p.e = 0 ∨ p.L.length ≤ p.nx) :
   Calls Tryz.prog 119 #[.pointer (some ⟨b, 0, none⟩)] w fun e w' => e = .returned (.tuple #[.agg #[.int .i64 0, .int .i64 0, .int .i64 0, .string ⟨#[]⟩, .int .i64 0], .bool false]) ∧ Below w.heap.size w w' := by
 have H := Lib.hid h
 by_cases he : p.e = 0
 · have hni : (p.L.length : Int) ≤ (p.nx : Int) := by
     rcases hv with h | h
     · exact absurd he h
     · omega
   have hbp := (h).blk; obtain ⟨hlp, hllp, qp0, qp1, qp2, qp3, qp4, qp5, zp0, zp1, zp2, zp3, zp4, zp5⟩ := bf6 hbp; (try simp at qp0 qp1 qp2 qp3 qp4 qp5); have Hhbp := Lib.hid hbp; clear hbp
   rw [he] at qp4
   clear h he hv
   go_enter Tryz.func119, Tryz.ntmps119
   go_wp2_with fail
   go_quiet (fail)
   have k1 : Blk ((w.alloc (.cells #[.int .i64 0, .int .i64 0, .int .i64 0, .string ⟨#[]⟩, .int .i64 0] 25)).drewN nq) w.heap.size 25 #[.int .i64 0, .int .i64 0, .int .i64 0, .string ⟨#[]⟩, .int .i64 0] := (Blk.new _ _ _).drewN nq
   go_wp2_with (refine wpList_store_blk k1 rfl _ _ _ (by rfl) _ (by rfl) (by rfl) (by repeat first | with_reducible first | exact k1 | apply Blk.alloc | apply Blk.drew | refine Blk.far ?_ (by simp <;> omega) _ | refine Blk.turn ?_ ‹_› (by omega)) (by rfl) (by kernel_rfl) (by simp [Value.oneCell']) ?_; intro wt k1n ht)
   refine ret_blk2 rfl k1n rfl Tryz.underlying25 rfl (by kernel_rfl) rfl ?_
   exact ⟨rfl, by (repeat' first | (with_reducible first | apply bdrewN | exact .refl _ _ | assumption | apply balloc | apply Below.drew | apply bset | refine bstep ?_ ‹_› | refine bturn ?_ ‹_› ?_) | go_size)⟩
 · have heb : (p.e != 0) = true := by simpa using he
   have hbp := (h).blk; obtain ⟨hlp, hllp, qp0, qp1, qp2, qp3, qp4, qp5, zp0, zp1, zp2, zp3, zp4, zp5⟩ := bf6 hbp; (try simp at qp0 qp1 qp2 qp3 qp4 qp5); have Hhbp := Lib.hid hbp; clear hbp
   clear h hv
   go_enter Tryz.func119, Tryz.ntmps119
   go_wp2_with fail
   go_quiet (fail)
   have k1 : Blk ((w.alloc (.cells #[.int .i64 0, .int .i64 0, .int .i64 0, .string ⟨#[]⟩, .int .i64 0] 25)).drewN nq) w.heap.size 25 #[.int .i64 0, .int .i64 0, .int .i64 0, .string ⟨#[]⟩, .int .i64 0] := (Blk.new _ _ _).drewN nq
   go_wp2_with (refine wpList_store_blk k1 rfl _ _ _ (by rfl) _ (by rfl) (by rfl) (by repeat first | with_reducible first | exact k1 | apply Blk.alloc | apply Blk.drew | refine Blk.far ?_ (by simp <;> omega) _ | refine Blk.turn ?_ ‹_› (by omega)) (by rfl) (by kernel_rfl) (by simp [Value.oneCell']) ?_; intro wt k1n ht)
   refine ret_blk2 rfl k1n rfl Tryz.underlying25 rfl (by kernel_rfl) rfl ?_
   exact ⟨rfl, by (repeat' first | (with_reducible first | apply bdrewN | exact .refl _ _ | assumption | apply balloc | apply Below.drew | apply bset | refine bstep ?_ ‹_› | refine bturn ?_ ‹_› ?_) | go_size)⟩
/-- A value's cells. -/
def cellsV (v : Vl) : Array Value := #[.int .i64 v.k, .int .i64 v.n, .int .i64 v.s, .string (bs v.t), .int .i64 v.m]
end Go.Proofs.YtapilekangmcoaaGreatDoor
namespace Go.Proofs.YtapilekangmcoaaGreatDoor
open Go.RowKit
/-- An expression's cells; K is the slice of its kids. -/
def cellsE (o : Int) (v : Vl) (s : Bs) (K : Value) : Array Value := #[.int .i64 o, .int .i64 v.k, .int .i64 v.n, .int .i64 v.s, .string (bs v.t), .int .i64 v.m, .string (bs s), K]
/-- Cells cs are the expression x, whose kids lie in blocks of S. -/
inductive XM (S : Nat → Prop) (w : World) : Ex → Array Value → Prop
 | mk (o : Int) (v : Vl) (s : Bs) (kids : List Ex) (A : Option Addr) (c : Nat) (f : Nat → Array Value) (hn : kids.length ≤ maxLen)
     (hk : ∀ i k, kids[i]? = some k → XM S w k (f i))
     (hc : ∀ i k, kids[i]? = some k → ∃ g b, A = some ⟨g, b, none⟩ ∧ S g ∧ ∀ j u, (f i)[j]? = some u → w.cell? ⟨g, b + i * 8 + j, none⟩ = some u) :
     XM S w (.mk o v s kids) (cellsE o v s (.slice A kids.length c))
section
variable {S T : Nat → Prop} {w w' : World} {x a b d : Ex} {cs ca cb cd : Array Value} {o : Int} {v : Vl} {s : Bs} {kids : List Ex}
theorem XM.keep (h : XM S w x cs) (hk : ∀ g, S g → g < w.heap.size → w'.heap[g]? = w.heap[g]?) : XM S w' x cs := by
 induction h with
 | mk o v s kids A c f hn _ hc ih =>
   refine .mk o v s kids A c f hn ih fun i k hi => ?_
   obtain ⟨g, b, e, hs, hj⟩ := hc i k hi
   exact ⟨g, b, e, hs, fun j u hu => (World.cell?_of_block (hk g hs (block_lt_of_cell (hj j u hu)))).trans (hj j u hu)⟩
theorem XM.mono (h : XM S w x cs) (hst : ∀ g, S g → g < w.heap.size → T g) : XM T w x cs := by
 induction h with
 | mk o v s kids A c f hn _ hc ih =>
   refine .mk o v s kids A c f hn ih fun i k hi => ?_
   obtain ⟨g, b, e, hs, hj⟩ := hc i k hi
   refine ⟨g, b, e, ?_, hj⟩
   cases hu : (f i)[0]? with
   | some u => exact hst g hs (block_lt_of_cell (hj 0 u hu))
   | none =>
     have := ih i k hi
     generalize f i = y at this hu
     cases this with
     | mk o v s kids A c f hn hk hc => simp [cellsE] at hu
theorem XM.step (h : XM S w x cs) (hb : Below w.heap.size w w') : XM S w' x cs := h.keep fun g _ hg => hb.block g hg
theorem XM.gr {B : Nat} (h : XM S w x cs) (hb : Gr B w w') (hn : ∀ g, S g → g ≠ B) : XM S w' x cs := h.keep fun g hs hg => hb.block g hg (hn g hs)
theorem XM.turn {B : Nat} (h : XM S w x cs) (ht : Turned w w' B) (hn : ∀ g, S g → g ≠ B) : XM S w' x cs := h.keep fun g hs _ => ht.block g (hn g hs)
theorem XM.inv (h : XM S w x cs) : ∃ (A : Option Addr) (c : Nat) (f : Nat → Array Value), cs = cellsE x.op x.v x.nm (.slice A x.kids.length c) ∧ x.kids.length ≤ maxLen ∧ (∀ i k, x.kids[i]? = some k → XM S w k (f i)) ∧
   ∀ i k, x.kids[i]? = some k → ∃ g b, A = some ⟨g, b, none⟩ ∧ S g ∧ ∀ j u, (f i)[j]? = some u → w.cell? ⟨g, b + i * 8 + j, none⟩ = some u := by
 cases h with
 | mk o v s kids A c f hn hk hc => exact ⟨A, c, f, rfl, hn, hk, hc⟩
/-- The eight cells, by name. -/
theorem XM.get (h : XM S w x cs) : ∃ (A : Option Addr) (c : Nat), cs = #[.int .i64 x.op, .int .i64 x.v.k, .int .i64 x.v.n, .int .i64 x.v.s, .string (bs x.v.t), .int .i64 x.v.m, .string (bs x.nm), .slice A x.kids.length c] := by
 obtain ⟨A, c, f, h, _⟩ := h.inv
 exact ⟨A, c, h⟩
theorem XM.size (h : XM S w x cs) : cs.size = 8 := by
 obtain ⟨A, c, rfl⟩ := h.get
 rfl
theorem XM.nil (A : Option Addr) (c : Nat) : XM S w (.mk o v s []) (cellsE o v s (.slice A 0 c)) := .mk o v s [] A c (fun _ => #[]) (Nat.zero_le _) (fun i k h => by simp at h) (fun i k h => by simp at h)
theorem zero_xm : XM S w zeroE #[.int .i64 0, .int .i64 0, .int .i64 0, .int .i64 0, .string ⟨#[]⟩, .int .i64 0, .string ⟨#[]⟩, .slice none 0 0] := XM.nil none 0
theorem get_flat : ∀ (CS : List (Array Value)), (∀ c ∈ CS, c.size = 8) → ∀ (i : Nat) (c : Array Value) (j : Nat) (u : Value), CS[i]? = some c → c[j]? = some u → (CS.flatMap Array.toList)[i * 8 + j]? = some u
 | [], _, i, c, j, u, h, _ => by simp at h
 | d :: CS, hz, 0, c, j, u, h, hj => by
   obtain rfl : d = c := by simpa using h
   have hl : j < d.size := (Array.getElem?_eq_some_iff.1 hj).1
   rw [List.flatMap_cons, Nat.zero_mul, Nat.zero_add, List.getElem?_append_left (by simpa using hl)]
   simpa using hj
 | d :: CS, hz, i + 1, c, j, u, h, hj => by
   have hs : d.size = 8 := hz d (List.mem_cons_self ..)
   have hs2 : d.toList.length = 8 := by simpa using hs
   have he : (i + 1) * 8 = i * 8 + 8 := Nat.succ_mul i 8
   rw [List.flatMap_cons, List.getElem?_append_right (by omega), hs2, show (i + 1) * 8 + j - 8 = i * 8 + j by omega]
   exact get_flat CS (fun c hc => hz c (List.mem_cons_of_mem _ hc)) i c j u (by simpa using h) hj
/-- An expression whose kids lie in one block. -/
theorem XM.row {CS : List (Array Value)} {g : Nat} {ty : TypeId} {es : Array Value} (hB : Blk w g ty es) (he : es.toList = CS.flatMap Array.toList) (hs : S g) (hl : kids.length = CS.length) (hn : kids.length ≤ maxLen)
   (hk : ∀ (i : Nat) (k : Ex) (c : Array Value), kids[i]? = some k → CS[i]? = some c → XM S w k c) (c : Nat) : XM S w (.mk o v s kids) (cellsE o v s (.slice (some ⟨g, 0, none⟩) kids.length c)) := by
 have hlt : ∀ i k, kids[i]? = some k → ∃ c, CS[i]? = some c := fun i k h => ⟨CS[i]'(by rw [← hl]; exact (List.getElem?_eq_some_iff.1 h).1), List.getElem?_eq_getElem _⟩
 have hz : ∀ c ∈ CS, c.size = 8 := fun c hc => by
   obtain ⟨i, hi⟩ := List.mem_iff_getElem?.1 hc
   have hil : i < kids.length := by rw [hl]; exact (List.getElem?_eq_some_iff.1 hi).1
   exact (hk i _ c (List.getElem?_eq_getElem hil) hi).size
 refine .mk o v s kids _ c (fun i => (CS[i]?).getD #[]) hn (fun i k h => ?_) fun i k h => ?_
 · obtain ⟨c, hc⟩ := hlt i k h
   show XM S w k ((CS[i]?).getD #[])
   rw [hc]
   exact hk i k c h hc
 · obtain ⟨c, hc⟩ := hlt i k h
   refine ⟨g, 0, rfl, hs, fun j u hu => ?_⟩
   have hu2 : c[j]? = some u := by
     have : ((CS[i]?).getD #[])[j]? = some u := hu
     rw [hc] at this
     exact this
   have := get_flat CS hz i c j u hc hu2
   rw [Nat.zero_add, hB.cell, ← Array.getElem?_toList, he]
   exact this
theorem XM.one {g : Nat} {ty : TypeId} {es : Array Value} (hB : Blk w g ty es) (he : es.toList = ca.toList) (hs : S g) (ha : XM S w a ca) (c : Nat) : XM S w (.mk o v s [a]) (cellsE o v s (.slice (some ⟨g, 0, none⟩) 1 c)) := by
 refine XM.row (CS := [ca]) hB (by simpa using he) hs rfl (by simp [maxLen]) (fun i k d h1 h2 => ?_) c
 match i, h1, h2 with
 | 0, h1, h2 =>
   obtain rfl : a = k := by simpa using h1
   obtain rfl : ca = d := by simpa using h2
   exact ha
 | i + 1, h1, h2 => simp at h1
theorem XM.two {g : Nat} {ty : TypeId} {es : Array Value} (hB : Blk w g ty es) (he : es.toList = ca.toList ++ cb.toList) (hs : S g) (ha : XM S w a ca) (hb : XM S w b cb) (c : Nat) : XM S w (.mk o v s [a, b]) (cellsE o v s (.slice (some ⟨g, 0, none⟩) 2 c)) := by
 refine XM.row (CS := [ca, cb]) hB (by simpa using he) hs rfl (by simp [maxLen]) (fun i k d h1 h2 => ?_) c
 match i, h1, h2 with
 | 0, h1, h2 =>
   obtain rfl : a = k := by simpa using h1
   obtain rfl : ca = d := by simpa using h2
   exact ha
 | 1, h1, h2 =>
   obtain rfl : b = k := by simpa using h1
   obtain rfl : cb = d := by simpa using h2
   exact hb
 | i + 2, h1, h2 => simp at h1
theorem XM.three {g : Nat} {ty : TypeId} {es : Array Value} (hB : Blk w g ty es) (he : es.toList = ca.toList ++ (cb.toList ++ cd.toList)) (hs : S g) (ha : XM S w a ca) (hb : XM S w b cb) (hd : XM S w d cd) (c : Nat) : XM S w (.mk o v s [a, b, d]) (cellsE o v s (.slice (some ⟨g, 0, none⟩) 3 c)) := by
 refine XM.row (CS := [ca, cb, cd]) hB (by simpa using he) hs rfl (by simp [maxLen]) (fun i k e h1 h2 => ?_) c
 match i, h1, h2 with
 | 0, h1, h2 =>
   obtain rfl : a = k := by simpa using h1
   obtain rfl : ca = e := by simpa using h2
   exact ha
 | 1, h1, h2 =>
   obtain rfl : b = k := by simpa using h1
   obtain rfl : cb = e := by simpa using h2
   exact hb
 | 2, h1, h2 =>
   obtain rfl : d = k := by simpa using h1
   obtain rfl : cd = e := by simpa using h2
   exact hd
 | i + 3, h1, h2 => simp at h1
end
end Go.Proofs.YtapilekangmcoaaGreatDoor
namespace Go.Proofs.YtapilekangmcoaaGreatDoor
open Go.RowKit
open Go.Lib hiding intOf
/-- Are two values one? -/
def vlq (a b c : Int) (d : ByteArray) (f a' b' c' : Int) (d' : ByteArray) (f' : Int) : Bool := a == a' && (b == b' && (c == c' && (d.toList == d'.toList && f == f')))
theorem run_vl_eql (w : World) (a b c : Int) (d : ByteArray) (f a' b' c' : Int) (d' : ByteArray) (f' : Int) :
   (binOp .eql 25 (.agg #[.int .i64 a, .int .i64 b, .int .i64 c, .string d, .int .i64 f]) (.agg #[.int .i64 a', .int .i64 b', .int .i64 c', .string d', .int .i64 f'])).run Tryz.prog w
     = .ok (.bool (vlq a b c d f a' b' c' d' f')) w := by
 go_simp
 unfold vlq
 by_cases h1 : a = a' <;> by_cases h2 : b = b' <;> by_cases h3 : c = c' <;> by_cases h4 : d.toList = d'.toList <;> by_cases h5 : f = f' <;> simp [h1, h2, h3, h4, h5]
theorem run_vl_neq (w : World) (a b c : Int) (d : ByteArray) (f a' b' c' : Int) (d' : ByteArray) (f' : Int) :
   (binOp .neq 25 (.agg #[.int .i64 a, .int .i64 b, .int .i64 c, .string d, .int .i64 f]) (.agg #[.int .i64 a', .int .i64 b', .int .i64 c', .string d', .int .i64 f'])).run Tryz.prog w
     = .ok (.bool (!vlq a b c d f a' b' c' d' f')) w := by
 go_simp
 unfold vlq
 by_cases h1 : a = a' <;> by_cases h2 : b = b' <;> by_cases h3 : c = c' <;> by_cases h4 : d.toList = d'.toList <;> by_cases h5 : f = f' <;> simp [h1, h2, h3, h4, h5]
attribute [local go_sem high] run_vl_eql run_vl_neq
/-- What value.Sound says. -/
def vS (k n s : Int) (q : ByteArray) (m : Int) : Bool :=
 if k = 0 then vlq 0 n s q m 0 0 0 ⟨#[]⟩ 0
 else if k = 1 then vlq 1 n s q m 1 n s ⟨#[]⟩ 0 && soundS n s
 else if k = 2 then vlq 2 n s q m 2 0 0 q 0 && (decide ((q.size : Int) ≤ 256) && goodS q)
 else if k = 3 then vlq 3 n s q m 3 0 0 ⟨#[]⟩ (bits .and .i64 m 1)
 else if k = 4 then vlq 4 n s q m 4 0 0 ⟨#[]⟩ (max 0 (min m 3652058))
 else false
theorem vs_0 (n s : Int) (q : ByteArray) (m : Int) (w : World) :
   Calls Tryz.prog 32 #[.agg #[.int .i64 0, .int .i64 n, .int .i64 s, .string q, .int .i64 m]] w fun e w' => e = .returned (.bool (vlq 0 n s q m 0 0 0 ⟨#[]⟩ 0)) ∧ Below w.heap.size w w' := by
 go_enter Tryz.func32, Tryz.ntmps32
 go_wp2_with fail
 go_returns
 exact ⟨rfl, by (repeat' first | (with_reducible first | apply bdrewN | exact .refl _ _ | assumption | apply balloc | apply Below.drew | apply bset | refine bstep ?_ ‹_› | refine bturn ?_ ‹_› ?_) | go_size)⟩
theorem vs_4 (n s : Int) (q : ByteArray) (m : Int) (w : World) :
   Calls Tryz.prog 32 #[.agg #[.int .i64 4, .int .i64 n, .int .i64 s, .string q, .int .i64 m]] w fun e w' => e = .returned (.bool (vlq 4 n s q m 4 0 0 ⟨#[]⟩ (max 0 (min m 3652058)))) ∧ Below w.heap.size w w' := by
 go_enter Tryz.func32, Tryz.ntmps32
 go_wp2_with fail
 go_returns
 exact ⟨rfl, by (repeat' first | (with_reducible first | apply bdrewN | exact .refl _ _ | assumption | apply balloc | apply Below.drew | apply bset | refine bstep ?_ ‹_› | refine bturn ?_ ‹_› ?_) | go_size)⟩
theorem vs_3 (n s : Int) (q : ByteArray) (m : Int) (w : World) :
   Calls Tryz.prog 32 #[.agg #[.int .i64 3, .int .i64 n, .int .i64 s, .string q, .int .i64 m]] w fun e w' => e = .returned (.bool (vlq 3 n s q m 3 0 0 ⟨#[]⟩ (bits .and .i64 m 1))) ∧ Below w.heap.size w w' := by
 go_enter Tryz.func32, Tryz.ntmps32
 go_wp2_with fail
 go_returns
 exact ⟨rfl, by (repeat' first | (with_reducible first | apply bdrewN | exact .refl _ _ | assumption | apply balloc | apply Below.drew | apply bset | refine bstep ?_ ‹_› | refine bturn ?_ ‹_› ?_) | go_size)⟩
theorem vs_no (k n s : Int) (q : ByteArray) (m : Int) (h0 : ¬ k = 0) (h1 : ¬ k = 1) (h2 : ¬ k = 2) (h3 : ¬ k = 3) (h4 : ¬ k = 4) (w : World) :
   Calls Tryz.prog 32 #[.agg #[.int .i64 k, .int .i64 n, .int .i64 s, .string q, .int .i64 m]] w fun e w' => e = .returned (.bool false) ∧ Below w.heap.size w w' := by
 go_enter Tryz.func32, Tryz.ntmps32
 go_wp2_with fail
 go_returns
 exact ⟨rfl, by (repeat' first | (with_reducible first | apply bdrewN | exact .refl _ _ | assumption | apply balloc | apply Below.drew | apply bset | refine bstep ?_ ‹_› | refine bturn ?_ ‹_› ?_) | go_size)⟩
theorem vs_1 (n s : Int) (q : ByteArray) (m : Int) (hn : I64 n) (hs : I64 s) (w : World) :
   Calls Tryz.prog 32 #[.agg #[.int .i64 1, .int .i64 n, .int .i64 s, .string q, .int .i64 m]] w fun e w' => e = .returned (.bool (vlq 1 n s q m 1 n s ⟨#[]⟩ 0 && soundS n s)) ∧ Below w.heap.size w w' := by
 have KS := Lib.hid (sound_any n s hn.1 hn.2 hs.1 hs.2)
 cases hv : vlq 1 n s q m 1 n s ⟨#[]⟩ 0 with
 | false =>
   go_enter Tryz.func32, Tryz.ntmps32
   go_wp2_with fail
   go_returns
   exact ⟨rfl, by (repeat' first | (with_reducible first | apply bdrewN | exact .refl _ _ | assumption | apply balloc | apply Below.drew | apply bset | refine bstep ?_ ‹_› | refine bturn ?_ ‹_› ?_) | go_size)⟩
 | true =>
   go_enter Tryz.func32, Tryz.ntmps32
   go_wp2_with (go_at_call 54; refine (KS.out _).mono ?_; rintro e w1 ⟨rfl, hb1⟩)
   go_returns
   exact ⟨rfl, by (repeat' first | (with_reducible first | apply bdrewN | exact .refl _ _ | assumption | apply balloc | apply Below.drew | apply bset | refine bstep ?_ ‹_› | refine bturn ?_ ‹_› ?_) | go_size)⟩
theorem vs_2 (n s : Int) (q : ByteArray) (m : Int) (mm : Int) (w : World) (hw : OKW mm w) :
   Calls Tryz.prog 32 #[.agg #[.int .i64 2, .int .i64 n, .int .i64 s, .string q, .int .i64 m]] w fun e w' => e = .returned (.bool (vlq 2 n s q m 2 0 0 q 0 && (decide ((q.size : Int) ≤ 256) && goodS q))) ∧ Below w.heap.size w w' := by
 have KS := Lib.hid (fun W hW => good_any q (goodS q) rfl W hW)
 have HT := Lib.hid (fun W (hb : Below w.heap.size w W) => (hw.step hb).u8)
 cases hv : vlq 2 n s q m 2 0 0 q 0 with
 | false =>
   go_enter Tryz.func32, Tryz.ntmps32
   go_wp2_with fail
   go_returns
   exact ⟨rfl, by (repeat' first | (with_reducible first | apply bdrewN | exact .refl _ _ | assumption | apply balloc | apply Below.drew | apply bset | refine bstep ?_ ‹_› | refine bturn ?_ ‹_› ?_) | go_size)⟩
 | true =>
   by_cases hl : (q.size : Int) ≤ 256
   · rw [decide_eq_true hl]
     go_enter Tryz.func32, Tryz.ntmps32
     go_wp2_with (go_at_call 55; refine (KS.out _ (HT.out _ (by (repeat' first | (with_reducible first | exact .refl _ _ | assumption | apply balloc | apply Below.drew | apply bset | refine bstep ?_ ‹_› | refine bturn ?_ ‹_› ?_) | go_size)))).mono ?_; rintro e w1 ⟨rfl, hb1⟩)
     go_returns
     exact ⟨rfl, by (repeat' first | (with_reducible first | apply bdrewN | exact .refl _ _ | assumption | apply balloc | apply Below.drew | apply bset | refine bstep ?_ ‹_› | refine bturn ?_ ‹_› ?_) | go_size)⟩
   · rw [decide_eq_false hl]
     go_enter Tryz.func32, Tryz.ntmps32
     go_wp2_with fail
     go_returns
     exact ⟨rfl, by (repeat' first | (with_reducible first | apply bdrewN | exact .refl _ _ | assumption | apply balloc | apply Below.drew | apply bset | refine bstep ?_ ‹_› | refine bturn ?_ ‹_› ?_) | go_size)⟩
theorem vs_any (k n s : Int) (q : ByteArray) (m : Int) (hn : I64 n) (hs : I64 s) (mm : Int) (w : World) (hw : OKW mm w) :
   Calls Tryz.prog 32 #[.agg #[.int .i64 k, .int .i64 n, .int .i64 s, .string q, .int .i64 m]] w fun e w' => e = .returned (.bool (vS k n s q m)) ∧ Below w.heap.size w w' := by
 unfold vS
 by_cases h0 : k = 0
 · subst h0
   exact vs_0 n s q m w
 · rw [if_neg h0]
   by_cases h1 : k = 1
   · subst h1
     exact vs_1 n s q m hn hs w
   · rw [if_neg h1]
     by_cases h2 : k = 2
     · subst h2
       exact vs_2 n s q m mm w hw
     · rw [if_neg h2]
       by_cases h3 : k = 3
       · subst h3
         exact vs_3 n s q m w
       · rw [if_neg h3]
         by_cases h4 : k = 4
         · subst h4
           exact vs_4 n s q m w
         · rw [if_neg h4]
           exact vs_no k n s q m h0 h1 h2 h3 h4 w
end Go.Proofs.YtapilekangmcoaaGreatDoor
namespace Go.Proofs.YtapilekangmcoaaGreatDoor
open Go.RowKit
theorem and_one (m : Int) : bits .and .i64 m 1 = 0 ∨ bits .and .i64 m 1 = 1 := by
 unfold bits
 simp only
 have h : (BitVec.ofInt IntKind.i64.bits m &&& BitVec.ofInt IntKind.i64.bits 1).toNat = (BitVec.ofInt IntKind.i64.bits m).toNat % 2 := by
   rw [BitVec.toNat_and, show (BitVec.ofInt IntKind.i64.bits 1).toNat = 1 by decide]
   exact Nat.and_one_is_mod _
 rw [h]
 rcases Nat.mod_two_eq_zero_or_one (BitVec.ofInt IntKind.i64.bits m).toNat with h | h <;> rw [h]
 · exact .inl (by decide)
 · exact .inr (by decide)
theorem vlq_iff {a b c : Int} {d : ByteArray} {f a' b' c' : Int} {d' : ByteArray} {f' : Int} : vlq a b c d f a' b' c' d' f' = true ↔ a = a' ∧ b = b' ∧ c = c' ∧ d.toList = d'.toList ∧ f = f' := by
 unfold vlq
 simp
theorem vs_iff (v : Vl) : vS v.k v.n v.s (bs v.t) v.m = true ↔ vSound v := by
 obtain ⟨k, n, s, t, m⟩ := v
 have ht : (bs t).toList = t := bs_toList t
 have he : (⟨#[]⟩ : ByteArray).toList = [] := bs_toList []
 unfold vS vSound
 simp only
 by_cases h0 : k = 0
 · subst h0
   rw [if_pos rfl, vlq_iff, ht, he]
   constructor
   · rintro ⟨_, h1, h2, h3, h4⟩
     exact .inl ⟨rfl, h1, h2, h3, h4⟩
   · rintro (h | h | h | h | h)
     · exact h
     all_goals exact absurd h.1 (by decide)
 · rw [if_neg h0]
   by_cases h1 : k = 1
   · subst h1
     rw [if_pos rfl, Bool.and_eq_true, vlq_iff, ht, he]
     constructor
     · rintro ⟨⟨_, _, _, h3, h4⟩, h5⟩
       exact .inr (.inl ⟨rfl, h5, h3, h4⟩)
     · rintro (h | h | h | h | h)
       · exact absurd h.1 (by decide)
       · exact ⟨⟨rfl, rfl, rfl, h.2.2.1, h.2.2.2⟩, h.2.1⟩
       all_goals exact absurd h.1 (by decide)
   · rw [if_neg h1]
     by_cases h2 : k = 2
     · subst h2
       have hsz : (((bs t).size : Int) ≤ 256) ↔ t.length ≤ 256 := by rw [bs_size]; omega
       rw [if_pos rfl, Bool.and_eq_true, Bool.and_eq_true, vlq_iff, decide_eq_true_iff, hsz]
       constructor
       · rintro ⟨⟨_, h2, h3, _, h4⟩, h5, h6⟩
         exact .inr (.inr (.inl ⟨rfl, h2, h3, h4, h5, h6⟩))
       · rintro (h | h | h | h | h)
         · exact absurd h.1 (by decide)
         · exact absurd h.1 (by decide)
         · exact ⟨⟨rfl, h.2.1, h.2.2.1, rfl, h.2.2.2.1⟩, h.2.2.2.2⟩
         all_goals exact absurd h.1 (by decide)
     · rw [if_neg h2]
       by_cases h3 : k = 3
       · subst h3
         rw [if_pos rfl, vlq_iff, ht, he]
         constructor
         · rintro ⟨_, h1, h2, h3, h4⟩
           exact .inr (.inr (.inr (.inl ⟨rfl, h1, h2, h3, by rw [h4]; exact and_one m⟩)))
         · rintro (h | h | h | h | h)
           · exact absurd h.1 (by decide)
           · exact absurd h.1 (by decide)
           · exact absurd h.1 (by decide)
           · refine ⟨rfl, h.2.1, h.2.2.1, h.2.2.2.1, ?_⟩
             rcases h.2.2.2.2 with h | h <;> rw [h] <;> decide
           · exact absurd h.1 (by decide)
       · rw [if_neg h3]
         by_cases h4 : k = 4
         · subst h4
           rw [if_pos rfl, vlq_iff, ht, he]
           constructor
           · rintro ⟨_, h1, h2, h3, h4⟩
             exact .inr (.inr (.inr (.inr ⟨rfl, h1, h2, h3, by omega, by omega⟩)))
           · rintro (h | h | h | h | h)
             · exact absurd h.1 (by decide)
             · exact absurd h.1 (by decide)
             · exact absurd h.1 (by decide)
             · exact absurd h.1 (by decide)
             · exact ⟨rfl, h.2.1, h.2.2.1, h.2.2.2.1, by have := h.2.2.2.2; omega⟩
         · rw [if_neg h4]
           constructor
           · intro h
             cases h
           · rintro (h | h | h | h | h)
             · exact absurd h.1 h0
             · exact absurd h.1 h1
             · exact absurd h.1 h2
             · exact absurd h.1 h3
             · exact absurd h.1 h4
/-- What a value's numbers keep to. -/
structure VOk (v : Vl) : Prop where
 n : I64 v.n
 s : I64 v.s
 m : I64 v.m
open Classical in
theorem vsd_any (v : Vl) (hv : VOk v) (m : Int) (w : World) (hw : OKW m w) :
   Calls Tryz.prog 32 #[.agg (cellsV v)] w fun e w' => e = .returned (.bool (decide (vSound v))) ∧ Below w.heap.size w w' := by
 have h := vs_any v.k v.n v.s (bs v.t) v.m hv.n hv.s m w hw
 have e : vS v.k v.n v.s (bs v.t) v.m = decide (vSound v) := by
   by_cases hs : vSound v
   · rw [decide_eq_true hs]
     exact (vs_iff v).2 hs
   · rw [decide_eq_false hs]
     cases hb : vS v.k v.n v.s (bs v.t) v.m with
     | false => rfl
     | true => exact absurd ((vs_iff v).1 hb) hs
 rw [e] at h
 exact h
theorem vs_ok {v : Vl} (h : vSound v) : VOk v := by
 rcases h with h | h | h | h | h
 · exact ⟨by rw [h.2.1]; exact ok0, by rw [h.2.2.1]; exact ok0, by rw [h.2.2.2.2]; exact ok0⟩
 · obtain ⟨b1, b2, b3, b4, _⟩ := sound_bd h.2.1
   exact ⟨⟨by omega, by omega⟩, ⟨by omega, by omega⟩, by rw [h.2.2.2]; exact ok0⟩
 · exact ⟨by rw [h.2.1]; exact ok0, by rw [h.2.2.1]; exact ok0, by rw [h.2.2.2.1]; exact ok0⟩
 · refine ⟨by rw [h.2.1]; exact ok0, by rw [h.2.2.1]; exact ok0, ?_⟩
   rcases h.2.2.2.2 with h | h <;> rw [h]
   · exact ok0
   · exact ⟨by decide, by decide⟩
 · exact ⟨by rw [h.2.1]; exact ok0, by rw [h.2.2.1]; exact ok0, ⟨by omega, by omega⟩⟩
end Go.Proofs.YtapilekangmcoaaGreatDoor
namespace Go.Proofs.YtapilekangmcoaaGreatDoor
open Go.RowKit
set_option maxHeartbeats 4000000 in
theorem kids_any (o : Int) (w : World) : Calls Tryz.prog 78 #[.int .i64 o] w fun e w' => e = .returned (.int .i64 (kidsN o)) ∧ w = w' := by
 unfold kidsN
 by_cases h1 : o = 1
 · subst h1
   go_enter Tryz.func78, Tryz.ntmps78
   go_wp2_with fail
   go_returns
   exact ⟨rfl, rfl⟩
 by_cases h2 : o = 2
 · subst h2
   go_enter Tryz.func78, Tryz.ntmps78
   go_wp2_with fail
   go_returns
   exact ⟨rfl, rfl⟩
 rw [if_neg (by omega)]
 by_cases h3 : o = 3
 · subst h3
   go_enter Tryz.func78, Tryz.ntmps78
   go_wp2_with fail
   go_returns
   exact ⟨rfl, rfl⟩
 by_cases h4 : o = 16
 · subst h4
   go_enter Tryz.func78, Tryz.ntmps78
   go_wp2_with fail
   go_returns
   exact ⟨rfl, rfl⟩
 rw [if_neg (by omega)]
 by_cases h5 : o = 17
 · subst h5
   go_enter Tryz.func78, Tryz.ntmps78
   go_wp2_with fail
   go_returns
   exact ⟨rfl, rfl⟩
 rw [if_neg h5]
 by_cases h6 : 4 ≤ o
 · by_cases h7 : o ≤ 15
   · rw [if_pos ⟨h6, h7⟩]
     go_enter Tryz.func78, Tryz.ntmps78
     go_wp2_with fail
     go_returns
     exact ⟨rfl, rfl⟩
   · rw [if_neg (fun h => h7 h.2)]
     go_enter Tryz.func78, Tryz.ntmps78
     go_wp2_with fail
     go_returns
     exact ⟨rfl, rfl⟩
 · rw [if_neg (fun h => h6 h.1)]
   go_enter Tryz.func78, Tryz.ntmps78
   go_wp2_with fail
   go_returns
   exact ⟨rfl, rfl⟩
/-- The count of what may still come lies in block lb; nothing of w0 has turned. -/
structure SB (w0 w : World) (lb : Nat) (l : Int) : Prop where
 bel : Below w0.heap.size w0 w
 blk : Blk w lb 3 #[.int .i64 l]
 new : w0.heap.size ≤ lb
theorem SB.step {w0 w w' : World} {lb : Nat} {l : Int} (h : SB w0 w lb l) (hb : Below w.heap.size w w') : SB w0 w' lb l := ⟨bstep h.bel hb, h.blk.step hb, h.new⟩
/-- What a closure holds: how deep, and where the count lies. -/
structure CL (w : World) (D P lb : Nat) (d : Int) : Prop where
 d : w.cell? ⟨D, 0, none⟩ = some (.int .i64 d)
 p : w.cell? ⟨P, 0, none⟩ = some (.pointer (some ⟨lb, 0, none⟩))
 nd : D ≠ lb
 np : P ≠ lb
theorem CL.gr {w w' : World} {D P lb : Nat} {d : Int} (h : CL w D P lb d) (g : Gr lb w w') : CL w' D P lb d :=
 ⟨((gcell g).1 _ _ (block_lt_of_cell h.d) h.nd).trans h.d, ((gcell g).1 _ _ (block_lt_of_cell h.p) h.np).trans h.p, h.nd, h.np⟩
set_option maxHeartbeats 4000000 in
theorem sclo_any (o ek en s m : Int) (y r : ByteArray) (B : Option Addr) (n c D P lb : Nat) (d d1 : Int) (hd : IntKind.i64.wrap (d + 1) = d1) (b : Bool) (w0 : World) (l l2 : Int) (w : World) (hs : SB w0 w lb l) (hc : CL w D P lb d)
   (KS : Hid (∀ W, SB w0 W lb l → Calls Tryz.prog 52 #[.agg #[.int .i64 o, .int .i64 ek, .int .i64 en, .int .i64 s, .string y, .int .i64 m, .string r, .slice B n c], .int .i64 d1, .pointer (some ⟨lb, 0, none⟩)] W fun e w' => e = .returned (.bool b) ∧ SB w0 w' lb l2 ∧ Gr lb W w')) :
   Calls Tryz.prog 81 #[.agg #[.int .i64 o, .int .i64 ek, .int .i64 en, .int .i64 s, .string y, .int .i64 m, .string r, .slice B n c], .pointer (some ⟨D, 0, none⟩), .pointer (some ⟨P, 0, none⟩)] w fun e w' => e = .returned (.bool (!b)) ∧ SB w0 w' lb l2 ∧ Gr lb w w' := by
 have HS := Lib.hid hs
 have c1 := hc.d
 have c2 := hc.p
 have hlt := hs.blk.lt
 have hl1 := block_lt_of_cell c1
 have hl2 := block_lt_of_cell c2
 simp only at hl1 hl2
 have hll1 := lts hl1
 have hll2 := lts hl2
 clear hs hc
 go_enter Tryz.func81, Tryz.ntmps81
 go_wp2_with fail
 refine (KS.out _ (HS.out.step (by (repeat' first | (with_reducible first | exact .refl _ _ | assumption | apply balloc | apply Below.drew | apply bset | refine bstep ?_ ‹_› | refine bturn ?_ ‹_› ?_) | go_size)))).mono ?_
 rintro e w1 ⟨rfl, h1, g1⟩
 have g : Gr lb w w1 := Gr.trans (.of (by (repeat' first | (with_reducible first | exact .refl _ _ | assumption | apply balloc | apply Below.drew | apply bset | refine bstep ?_ ‹_› | refine bturn ?_ ‹_› ?_) | go_size))) g1
 clear c1 c2
 go_wp2_with fail
 go_returns
 exact ⟨rfl, h1, g⟩
/-- What is asked of sound at one of the kids. -/
def SndC (w0 : World) (x : Ex) : Prop := ∀ (cs : Array Value) (d : Nat) (l : Int) (lb : Nat) (w : World), XM (fun _ => True) w0 x cs → SB w0 w lb l → d ≤ 100 → 0 ≤ l → l ≤ 5000 →
 Calls Tryz.prog 52 #[.agg cs, .int .i64 (d : Int), .pointer (some ⟨lb, 0, none⟩)] w fun e w' => e = .returned (.bool (sndE x d l).1) ∧ SB w0 w' lb (sndE x d l).2 ∧ Gr lb w w'
theorem sndL_stop {L : List Ex} {k : Nat} {x : Ex} {d : Nat} {l : Int} {R : Bool × Int} (h : sndL (L.drop k) d l = R) (hx : L[k]? = some x) (hb : (sndE x d l).1 = false) : R = (false, (sndE x d l).2) := by
 obtain ⟨hk, rfl⟩ := List.getElem?_eq_some_iff.1 hx
 rw [List.drop_eq_getElem_cons hk, sndL, if_neg (by rw [hb]; decide)] at h
 exact h.symm
theorem sndL_go {L : List Ex} {k : Nat} {x : Ex} {d : Nat} {l : Int} {R : Bool × Int} (h : sndL (L.drop k) d l = R) (hx : L[k]? = some x) (hb : (sndE x d l).1 = true) : sndL (L.drop (k + 1)) d (sndE x d l).2 = R := by
 obtain ⟨hk, rfl⟩ := List.getElem?_eq_some_iff.1 hx
 rw [List.drop_eq_getElem_cons hk, sndL, if_pos hb] at h
 exact h
theorem sidx_walk (L : List Ex) (A : Option Addr) (c D P lb d1 : Nat) (d : Int) (hd : IntKind.i64.wrap (d + 1) = (d1 : Int)) (hd1 : d1 ≤ 100) (f : Nat → Array Value) (w0 : World) (hn : L.length ≤ maxLen) (hx : ∀ i k, L[i]? = some k → XM (fun _ => True) w0 k (f i))
   (hcx : ∀ i k, L[i]? = some k → ∃ g b, A = some ⟨g, b, none⟩ ∧ True ∧ ∀ j u, (f i)[j]? = some u → w0.cell? ⟨g, b + i * 8 + j, none⟩ = some u) (hK : ∀ k ∈ L, SndC w0 k) (l : Int) (hl0 : 0 ≤ l) (hl1 : l ≤ 5000) (w : World) (hs : SB w0 w lb l) (hc : CL w D P lb d) :
   Calls Tryz.prog 123 #[.slice A L.length c, .func (.func 81) #[] #[.pointer (some ⟨D, 0, none⟩), .pointer (some ⟨P, 0, none⟩)]] w fun e w' => (∃ r : Int, e = .returned (.int .i64 r) ∧ (0 ≤ r ↔ (sndL L d1 l).1 = false)) ∧ SB w0 w' lb (sndL L d1 l).2 ∧ Gr lb w w' := by
 obtain ⟨R, hR⟩ : ∃ R, sndL L d1 l = R := ⟨_, rfl⟩
 rw [hR]
 have HX := Lib.hid hx
 have HCX := Lib.hid hcx
 have HK := Lib.hid hK
 have HD := Lib.hid (And.intro hd hd1)
 have hn2 : (L.length : Int) ≤ 9223372036854775807 := by unfold maxLen at hn; omega
 have S0 : Hid (SB w0 w lb l ∧ CL w D P lb d ∧ sndL (L.drop 0) d1 l = R ∧ 0 ≤ l ∧ l ≤ 5000) := Lib.hid ⟨hs, hc, hR, hl0, hl1⟩
 clear hx hcx hK hR hs hc hd hd1 hn hl0 hl1
 go_enter Tryz.func123, Tryz.ntmps123
 go_wp2_with fail
 go_loopw [8] (fun i wr => ∃ (k : Nat) (lk : Int), k ≤ L.length ∧ i = .int .i64 (k : Int) ∧ Gr lb w wr ∧ Hid (SB w0 wr lb lk ∧ CL wr D P lb d ∧ sndL (L.drop k) d1 lk = R ∧ 0 ≤ lk ∧ lk ≤ 5000)) (fun i _ => L.length - (intOf i).toNat)
 case atStart => exact ⟨0, l, by omega, rfl, Gr.refl _ _, S0⟩
 case round =>
   obtain ⟨k, lk, hk, rfl, hg, HQ⟩ := hrel
   by_cases hlt : k < L.length
   · obtain ⟨x, ht⟩ : ∃ x, L[k]? = some x := ⟨L[k], List.getElem?_eq_getElem hlt⟩
     have hki : (k : Int) < (L.length : Int) := by omega
     have hkn : IntKind.i64.wrap ((k : Int) + 1) = ((k + 1 : Nat) : Int) := by rw [IntWalk.i64_in _ (by omega)]; omega
     obtain ⟨g, off, rfl, _, hcell⟩ := HCX.out k x ht
     have hxm := HX.out k x ht
     obtain ⟨o, ek, en, s, y, m, r, B, n, cc, hcs⟩ : ∃ (o ek en s : Int) (y : ByteArray) (m : Int) (r : ByteArray) (B : Option Addr) (n cc : Nat), f k = #[.int .i64 o, .int .i64 ek, .int .i64 en, .int .i64 s, .string y, .int .i64 m, .string r, .slice B n cc] := by
       obtain ⟨A, c, h⟩ := hxm.get
       exact ⟨_, _, _, _, _, _, _, _, _, _, h⟩
     rw [hcs] at hcell hxm
     have hbel := HQ.out.1.bel
     have q0 := keep1 hbel (hcell 0 _ rfl)
     have q1 := keep1 hbel (hcell 1 _ rfl)
     have q2 := keep1 hbel (hcell 2 _ rfl)
     have q3 := keep1 hbel (hcell 3 _ rfl)
     have q4 := keep1 hbel (hcell 4 _ rfl)
     have q5 := keep1 hbel (hcell 5 _ rfl)
     have q6 := keep1 hbel (hcell 6 _ rfl)
     have q7 := keep1 hbel (hcell 7 _ rfl)
     simp only [Nat.add_zero] at q0
     have KS := HK.out x (List.mem_of_getElem? ht)
     obtain ⟨b, hb⟩ : ∃ b, (sndE x d1 lk).1 = b := ⟨_, rfl⟩
     obtain ⟨l2, hl2⟩ : ∃ l2, (sndE x d1 lk).2 = l2 := ⟨_, rfl⟩
     have KC : Hid (∀ W, SB w0 W lb lk → CL W D P lb d → Calls Tryz.prog 81 #[.agg #[.int .i64 o, .int .i64 ek, .int .i64 en, .int .i64 s, .string y, .int .i64 m, .string r, .slice B n cc], .pointer (some ⟨D, 0, none⟩), .pointer (some ⟨P, 0, none⟩)] W fun e w' => e = .returned (.bool (!b)) ∧ SB w0 w' lb l2 ∧ Gr lb W w') :=
       Lib.hid fun W hW hC => sclo_any o ek en s m y r B n cc D P lb d d1 HD.out.1 b w0 lk l2 W hW hC (Lib.hid fun W hW => by
         have := KS _ d1 lk lb W hxm hW HD.out.2 HQ.out.2.2.2.1 HQ.out.2.2.2.2
         rw [hb, hl2] at this
         exact this)
     have HN : Hid (b = true → sndL (L.drop (k + 1)) d1 l2 = R ∧ 0 ≤ l2 ∧ l2 ≤ 5000) := Lib.hid fun h => by
       have e1 := sndL_go HQ.out.2.2.1 ht (hb.trans h)
       obtain ⟨_, _, e2, e3⟩ := sndE_true x d1 lk (hb.trans h)
       rw [hl2] at e1 e2 e3
       exact ⟨e1, e3, by have := HQ.out.2.2.2.2; omega⟩
     have HY : Hid (b = false → R = (false, l2)) := Lib.hid fun h => by
       have e1 := sndL_stop HQ.out.2.2.1 ht (hb.trans h)
       rw [hl2] at e1
       exact e1
     have HSB := Lib.hid HQ.out.1
     have HCL := Lib.hid HQ.out.2.1
     clear hcell hxm hcs hbel hb hl2 ht KS HQ
     go_wp2_with fail
     refine (KC.out _ HSB.out HCL.out).mono ?_
     rintro e w2 ⟨rfl, h2, g2⟩
     clear q0 q1 q2 q3 q4 q5 q6 q7
     cases b with
     | false =>
       go_wp2_with fail
       go_returns
       have hr := HY.out (by simp)
       subst hr
       exact ⟨⟨k, rfl, by simp⟩, h2, hg.trans g2⟩
     | true =>
       go_wp2_with fail
       go_roundw
       case rel => exact ⟨k + 1, l2, by omega, by go_num, hg.trans g2, Lib.hid ⟨h2, HCL.out.gr g2, HN.out (by simp)⟩⟩
       case measure => simp [intOf]; omega
   · obtain rfl : k = L.length := by omega
     have hR : R = (true, lk) := by
       have := HQ.out.2.2.1
       rw [List.drop_length, sndL] at this
       exact this.symm
     have HR := Lib.hid hR
     clear hlt hR
     go_wp2_with fail
     go_returns
     have hr := HR.out
     subst hr
     exact ⟨⟨-1, rfl, by simp⟩, HQ.out.1, hg⟩
theorem scont_walk (A : Option Addr) (n c D P lb : Nat) (R : Bool × Int) (w0 : World) (w : World)
   (KI : Hid (∀ W, W = w → Calls Tryz.prog 123 #[.slice A n c, .func (.func 81) #[] #[.pointer (some ⟨D, 0, none⟩), .pointer (some ⟨P, 0, none⟩)]] W fun e w' => (∃ r : Int, e = .returned (.int .i64 r) ∧ (0 ≤ r ↔ R.1 = false)) ∧ SB w0 w' lb R.2 ∧ Gr lb W w')) :
   Calls Tryz.prog 80 #[.slice A n c, .func (.func 81) #[] #[.pointer (some ⟨D, 0, none⟩), .pointer (some ⟨P, 0, none⟩)]] w fun e w' => e = .returned (.bool (!R.1)) ∧ SB w0 w' lb R.2 ∧ Gr lb w w' := by
 go_enter Tryz.func80, Tryz.ntmps80
 go_wp2_with fail
 refine (KI.out _ rfl).mono ?_
 rintro e w1 ⟨⟨r, rfl, hr⟩, h1, g1⟩
 have HR := Lib.hid hr
 clear hr
 go_wp2_with fail
 go_returns
 refine ⟨?_, h1, g1⟩
 by_cases h : 0 ≤ r
 · rw [decide_eq_true h, HR.out.1 h]
   rfl
 · rw [decide_eq_false h]
   cases hb : R.1 with
   | true => rfl
   | false => exact absurd (HR.out.2 hb) h
end Go.Proofs.YtapilekangmcoaaGreatDoor
namespace Go.Proofs.YtapilekangmcoaaGreatDoor
open Go.RowKit
attribute [local go_sem high] run_vl_eql run_vl_neq
/-- May it have this value and this name? By what the walk asks. -/
def okB (o : Int) (re wb zv sd ng : Bool) : Bool := if o = 2 then !re && wb && zv && sd && !ng else if o = 1 then re && sd && !ng else re && zv && sd && !ng
section
variable (o vk vn vs vm : Int) (q r : ByteArray) (A : Option Addr) (N c d lb : Nat) (l l1 kn : Int) (w0 w : World) (R : Bool × Int) (re wb zv sd ng : Bool)
set_option maxHeartbeats 16000000 in
theorem snd_node (hs : SB w0 w lb l) (hl : IntKind.i64.wrap (l - 1) = l1) (hkn : kidsN o = kn) (hd : d ≤ 100) (hre : r.toList.isEmpty = re) (hzv : vlq vk vn vs q vm 0 0 0 ⟨#[]⟩ 0 = zv) (hng : decide (vn < 0) = ng)
   (KW : Hid (∀ W, Calls Tryz.prog 79 #[.string r] W fun e w' => e = .returned (.bool wb) ∧ Below W.heap.size W w'))
   (KV : Hid (∀ W, Below w0.heap.size w0 W → Calls Tryz.prog 32 #[.agg #[.int .i64 vk, .int .i64 vn, .int .i64 vs, .string q, .int .i64 vm]] W fun e w' => e = .returned (.bool sd) ∧ Below W.heap.size W w'))
   (KC : Hid (d ≤ 64 → 0 ≤ l1 → ∀ D P W, SB w0 W lb l1 → CL W D P lb d → Calls Tryz.prog 80 #[.slice A N c, .func (.func 81) #[] #[.pointer (some ⟨D, 0, none⟩), .pointer (some ⟨P, 0, none⟩)]] W fun e w' => e = .returned (.bool (!R.1)) ∧ SB w0 w' lb R.2 ∧ Gr lb W w')) :
   Calls Tryz.prog 52 #[.agg #[.int .i64 o, .int .i64 vk, .int .i64 vn, .int .i64 vs, .string q, .int .i64 vm, .string r, .slice A N c], .int .i64 (d : Int), .pointer (some ⟨lb, 0, none⟩)] w fun e w' =>
     e = .returned (.bool ((decide (d ≤ 64) && (decide (0 ≤ l1) && decide ((N : Int) = kn))) && (okB o re wb zv sd ng && R.1))) ∧ SB w0 w' lb (if ((decide (d ≤ 64) && (decide (0 ≤ l1) && decide ((N : Int) = kn))) && okB o re wb zv sd ng) = true then R.2 else l1) ∧ Gr lb w w' := by
 obtain ⟨C, hC⟩ : ∃ C, (decide (d ≤ 64) && (decide (0 ≤ l1) && decide ((N : Int) = kn))) = C := ⟨_, rfl⟩
 obtain ⟨K, hK⟩ : ∃ K, okB o re wb zv sd ng = K := ⟨_, rfl⟩
 rw [hC, hK]
 have HC := Lib.hid hC
 have HK := Lib.hid hK
 clear hC hK
 have hlt := hs.blk.lt
 have hll := lts hlt
 have hc0 := hs.blk.cell 0
 simp at hc0
 have hf0 := hs.blk.frozen 0
 have G1 : Hid (Gr lb w (((((w.setCell ⟨lb, 0, none⟩ (.int .i64 l1)).alloc (.cells #[.int .i64 o, .int .i64 vk, .int .i64 vn, .int .i64 vs, .string q, .int .i64 vm, .string r, .slice A N c] 33)).alloc (.cells #[.int .i64 (d : Int)] 3)).alloc (.cells #[.pointer (some ⟨lb, 0, none⟩)] 80)))) := Lib.hid (by (repeat' (first | (with_reducible exact Gr.refl _ _) | (with_reducible assumption) | (with_reducible refine Gr.alloc ?_ _) | (with_reducible refine Gr.drew ?_) | (with_reducible refine Gr.drewN ?_ _) | (with_reducible refine Gr.set ?_ _ _) | (with_reducible refine Gr.far ?_ ?_ _) | (with_reducible refine Gr.trans ?_ (by with_reducible assumption)) | (with_reducible refine Gr.bstep ?_ (by with_reducible assumption)) | (with_reducible refine Gr.turn ?_ (by with_reducible assumption)) | (with_reducible refine Gr.turnFar ?_ (by with_reducible assumption) ?_) | go_size | ((try simp only [World.size_alloc, World.size_setCell, World.size_drew]); omega))))
 have S1 : Hid (SB w0 (((((w.setCell ⟨lb, 0, none⟩ (.int .i64 l1)).alloc (.cells #[.int .i64 o, .int .i64 vk, .int .i64 vn, .int .i64 vs, .string q, .int .i64 vm, .string r, .slice A N c] 33)).alloc (.cells #[.int .i64 (d : Int)] 3)).alloc (.cells #[.pointer (some ⟨lb, 0, none⟩)] 80))) lb l1) := Lib.hid ⟨hs.bel.trans ⟨rfl, rfl, rfl, by simp [World.setCell]; omega, fun k hk => by
     have := G1.out.block k (by have := hs.bel.size; omega) (by have := hs.new; omega)
     exact this⟩, by
   have := hs.blk.set_ 0 (.int .i64 l1)
   exact (((by simpa using this : Blk _ lb _ _).alloc _).alloc _).alloc _, hs.new⟩
 have C1 : Hid (CL (((((w.setCell ⟨lb, 0, none⟩ (.int .i64 l1)).alloc (.cells #[.int .i64 o, .int .i64 vk, .int .i64 vn, .int .i64 vs, .string q, .int .i64 vm, .string r, .slice A N c] 33)).alloc (.cells #[.int .i64 (d : Int)] 3)).alloc (.cells #[.pointer (some ⟨lb, 0, none⟩)] 80))) (w.heap.size + 1) (w.heap.size + 1 + 1) lb d) := Lib.hid ⟨((Blk.new' _ _ _ (by simp [World.setCell])).alloc _ : Blk (((((w.setCell ⟨lb, 0, none⟩ (.int .i64 l1)).alloc (.cells #[.int .i64 o, .int .i64 vk, .int .i64 vn, .int .i64 vs, .string q, .int .i64 vm, .string r, .slice A N c] 33)).alloc (.cells #[.int .i64 (d : Int)] 3)).alloc (.cells #[.pointer (some ⟨lb, 0, none⟩)] 80))) (w.heap.size + 1) 3 #[.int .i64 (d : Int)]).cell 0, (Blk.new' _ _ _ (by simp [World.setCell]) : Blk (((((w.setCell ⟨lb, 0, none⟩ (.int .i64 l1)).alloc (.cells #[.int .i64 o, .int .i64 vk, .int .i64 vn, .int .i64 vs, .string q, .int .i64 vm, .string r, .slice A N c] 33)).alloc (.cells #[.int .i64 (d : Int)] 3)).alloc (.cells #[.pointer (some ⟨lb, 0, none⟩)] 80))) (w.heap.size + 1 + 1) 80 #[.pointer (some ⟨lb, 0, none⟩)]).cell 0, by omega, by omega⟩
 have K1 : Hid (Blk (((((w.setCell ⟨lb, 0, none⟩ (.int .i64 l1)).alloc (.cells #[.int .i64 o, .int .i64 vk, .int .i64 vn, .int .i64 vs, .string q, .int .i64 vm, .string r, .slice A N c] 33)).alloc (.cells #[.int .i64 (d : Int)] 3)).alloc (.cells #[.pointer (some ⟨lb, 0, none⟩)] 80))) w.heap.size 33 #[.int .i64 o, .int .i64 vk, .int .i64 vn, .int .i64 vs, .string q, .int .i64 vm, .string r, .slice A N c]) := Lib.hid (((Blk.new' _ _ _ (by simp [World.setCell])).alloc _).alloc _)
 have HB := Lib.hid hs.bel
 clear hs
 go_enter Tryz.func52, Tryz.ntmps52
 go_upto_region 2 with fail
 generalize ((((w.setCell ⟨lb, 0, none⟩ (.int .i64 l1)).alloc (.cells #[.int .i64 o, .int .i64 vk, .int .i64 vn, .int .i64 vs, .string q, .int .i64 vm, .string r, .slice A N c] 33)).alloc (.cells #[.int .i64 (d : Int)] 3)).alloc (.cells #[.pointer (some ⟨lb, 0, none⟩)] 80)) = w1 at *
 clear hc0 hf0 hll
 have c1 := C1.out.d
 have c2 := C1.out.p
 have c3 := S1.out.blk.cell 0
 simp at c3
 have k1 := K1.out
 have HKN := Lib.hid hkn
 obtain ⟨hlx, hllx, qx0, qx1, qx2, qx3, qx4, qx5, qx6, qx7, zx0, zx1, zx2, zx3, zx4, zx5, zx6, zx7⟩ := bf8 k1; (try simp at qx0 qx1 qx2 qx3 qx4 qx5 qx6 qx7); have Hk1 := Lib.hid k1; clear k1
 go_cut [28] (fun z wx => z = .bool (!C) ∧ Below w1.heap.size w1 wx)
 case first =>
   by_cases h1 : d ≤ 64
   · have e1 : decide ((64 : Int) < (d : Int)) = false := decide_eq_false (by omega)
     by_cases h2 : 0 ≤ l1
     · have e2 : decide (l1 < 0) = false := decide_eq_false (by omega)
       by_cases h3 : (N : Int) = kn
       · have e3 : ((N : Int) != kn) = false := by simpa using h3
         go_region_with (go_at_call 78; refine (kids_any _ _).mono ?_; rw [HKN.out]; rintro e w' ⟨rfl, rfl⟩)
         all_goals
           go_wp2_with fail
           go_meet
           case rel => exact ⟨by rw [← HC.out]; simp [*], by (repeat' first | (with_reducible first | apply bdrewN | exact .refl _ _ | assumption | apply balloc | apply Below.drew | apply bset | refine bstep ?_ ‹_› | refine bturn ?_ ‹_› ?_) | go_size)⟩
       · have e3 : ((N : Int) != kn) = true := by simpa using h3
         go_region_with (go_at_call 78; refine (kids_any _ _).mono ?_; rw [HKN.out]; rintro e w' ⟨rfl, rfl⟩)
         all_goals
           go_wp2_with fail
           go_meet
           case rel => exact ⟨by rw [← HC.out]; simp [*], by (repeat' first | (with_reducible first | apply bdrewN | exact .refl _ _ | assumption | apply balloc | apply Below.drew | apply bset | refine bstep ?_ ‹_› | refine bturn ?_ ‹_› ?_) | go_size)⟩
     · have e2 : decide (l1 < 0) = true := decide_eq_true (by omega)
       go_quiet (fail)
       go_wp2_with fail
       go_meet
       case rel => exact ⟨by rw [← HC.out]; simp [*], by (repeat' first | (with_reducible first | apply bdrewN | exact .refl _ _ | assumption | apply balloc | apply Below.drew | apply bset | refine bstep ?_ ‹_› | refine bturn ?_ ‹_› ?_) | go_size)⟩
   · have e1 : decide ((64 : Int) < (d : Int)) = true := decide_eq_true (by omega)
     go_quiet (fail)
     go_wp2_with fail
     go_meet
     case rel => exact ⟨by rw [← HC.out]; simp [*], by (repeat' first | (with_reducible first | apply bdrewN | exact .refl _ _ | assumption | apply balloc | apply Below.drew | apply bset | refine bstep ?_ ‹_› | refine bturn ?_ ‹_› ?_) | go_size)⟩
 case rest =>
   obtain ⟨rfl, hb2⟩ := hcut
   rename World => w2
   clear c1 c2 c3 qx0 qx1 qx2 qx3 qx4 qx5 qx6 qx7 zx0 zx1 zx2 zx3 zx4 zx5 zx6 zx7 hlx hllx
   have S2 := Lib.hid (S1.out.step hb2)
   have G2 := Lib.hid (G1.out.bstep hb2)
   have K2 := Lib.hid (K1.out.step hb2)
   have C2 : Hid (CL w2 (w.heap.size + 1) (w.heap.size + 1 + 1) lb d) := Lib.hid ⟨keep1 hb2 C1.out.d, keep1 hb2 C1.out.p, C1.out.nd, C1.out.np⟩
   clear S1 G1 K1 C1 hb2
   cases C with
   | false =>
     rw [show (!false) = true from rfl]
     go_wp2_with fail
     go_returns
     exact ⟨by simp, by simpa using S2.out, G2.out⟩
   | true =>
     rw [show (!true) = false from rfl]
     have k2 := K2.out
     obtain ⟨hlx, hllx, qx0, qx1, qx2, qx3, qx4, qx5, qx6, qx7, zx0, zx1, zx2, zx3, zx4, zx5, zx6, zx7⟩ := bf8 k2; (try simp at qx0 qx1 qx2 qx3 qx4 qx5 qx6 qx7); have Hk2 := Lib.hid k2; clear k2
     go_upto_region 4 with fail
     go_cut [70] (fun z wx => z = .bool (!K) ∧ Below w2.heap.size w2 wx)
     case first =>
       by_cases h2 : o = 2
       · subst h2
         cases re with
         | true =>
           go_wp2_with fail
           go_meet
           case rel => exact ⟨by rw [← HK.out]; simp [okB], by (repeat' first | (with_reducible first | exact .refl _ _ | assumption | apply balloc | apply Below.drew | apply bset | refine bstep ?_ ‹_› | refine bturn ?_ ‹_› ?_) | go_size)⟩
         | false =>
           go_wp2_with fail
           refine (KW.out _).mono ?_
           rintro e wa ⟨rfl, hba⟩
           have ka := K2.out.step hba
           have Ka := Lib.hid ka
           clear qx0 qx1 qx2 qx3 qx4 qx5 qx6 qx7 zx0 zx1 zx2 zx3 zx4 zx5 zx6 zx7 hlx hllx
           cases wb with
           | false =>
             go_wp2_with fail
             go_meet
             case rel => exact ⟨by rw [← HK.out]; simp [okB], by (repeat' first | (with_reducible first | exact .refl _ _ | assumption | apply balloc | apply Below.drew | apply bset | refine bstep ?_ ‹_› | refine bturn ?_ ‹_› ?_) | go_size)⟩
           | true =>
             obtain ⟨hly, hlly, qy0, qy1, qy2, qy3, qy4, qy5, qy6, qy7, zy0, zy1, zy2, zy3, zy4, zy5, zy6, zy7⟩ := bf8 ka; (try simp at qy0 qy1 qy2 qy3 qy4 qy5 qy6 qy7); have Hka := Lib.hid ka; clear ka
             cases zv with
             | false =>
               go_wp2_with fail
               go_meet
               case rel => exact ⟨by rw [← HK.out]; simp [okB], by (repeat' first | (with_reducible first | exact .refl _ _ | assumption | apply balloc | apply Below.drew | apply bset | refine bstep ?_ ‹_› | refine bturn ?_ ‹_› ?_) | go_size)⟩
             | true =>
               go_wp2_with fail
               refine (KV.out _ (S2.out.step hba).bel).mono ?_
               rintro e wv ⟨rfl, hbv⟩
               have kv := (Ka.out).step hbv
               obtain ⟨hlz, hllz, qz0, qz1, qz2, qz3, qz4, qz5, qz6, qz7, zz0, zz1, zz2, zz3, zz4, zz5, zz6, zz7⟩ := bf8 kv; (try simp at qz0 qz1 qz2 qz3 qz4 qz5 qz6 qz7); have Hkv := Lib.hid kv; clear kv
               cases sd with
               | false =>
                 go_wp2_with fail
                 go_meet
                 case rel => exact ⟨by rw [← HK.out]; simp [okB], by (repeat' first | (with_reducible first | exact .refl _ _ | assumption | apply balloc | apply Below.drew | apply bset | refine bstep ?_ ‹_› | refine bturn ?_ ‹_› ?_) | go_size)⟩
               | true =>
                 cases ng with
                 | false =>
                   go_wp2_with fail
                   go_meet
                   case rel => exact ⟨by rw [← HK.out]; simp [okB], by (repeat' first | (with_reducible first | exact .refl _ _ | assumption | apply balloc | apply Below.drew | apply bset | refine bstep ?_ ‹_› | refine bturn ?_ ‹_› ?_) | go_size)⟩
                 | true =>
                   go_wp2_with fail
                   go_meet
                   case rel => exact ⟨by rw [← HK.out]; simp [okB], by (repeat' first | (with_reducible first | exact .refl _ _ | assumption | apply balloc | apply Below.drew | apply bset | refine bstep ?_ ‹_› | refine bturn ?_ ‹_› ?_) | go_size)⟩
       · have h2b : (o == 2) = false := by simpa using h2
         cases re with
         | false =>
           by_cases h1 : o = 1
           · go_wp2_with fail
             go_meet
             case rel => exact ⟨by rw [← HK.out]; simp [okB, *], by (repeat' first | (with_reducible first | exact .refl _ _ | assumption | apply balloc | apply Below.drew | apply bset | refine bstep ?_ ‹_› | refine bturn ?_ ‹_› ?_) | go_size)⟩
           · go_wp2_with fail
             go_meet
             case rel => exact ⟨by rw [← HK.out]; simp [okB, *], by (repeat' first | (with_reducible first | exact .refl _ _ | assumption | apply balloc | apply Below.drew | apply bset | refine bstep ?_ ‹_› | refine bturn ?_ ‹_› ?_) | go_size)⟩
         | true =>
           by_cases h1 : o = 1
           · subst h1
             go_wp2_with fail
             refine (KV.out _ (S2.out).bel).mono ?_
             rintro e wv ⟨rfl, hbv⟩
             have kv := (K2.out).step hbv
             obtain ⟨hlz, hllz, qz0, qz1, qz2, qz3, qz4, qz5, qz6, qz7, zz0, zz1, zz2, zz3, zz4, zz5, zz6, zz7⟩ := bf8 kv; (try simp at qz0 qz1 qz2 qz3 qz4 qz5 qz6 qz7); have Hkv := Lib.hid kv; clear kv
             cases sd with
             | false =>
               go_wp2_with fail
               go_meet
               case rel => exact ⟨by rw [← HK.out]; simp [okB], by (repeat' first | (with_reducible first | exact .refl _ _ | assumption | apply balloc | apply Below.drew | apply bset | refine bstep ?_ ‹_› | refine bturn ?_ ‹_› ?_) | go_size)⟩
             | true =>
               cases ng with
               | false =>
                 go_wp2_with fail
                 go_meet
                 case rel => exact ⟨by rw [← HK.out]; simp [okB], by (repeat' first | (with_reducible first | exact .refl _ _ | assumption | apply balloc | apply Below.drew | apply bset | refine bstep ?_ ‹_› | refine bturn ?_ ‹_› ?_) | go_size)⟩
               | true =>
                 go_wp2_with fail
                 go_meet
                 case rel => exact ⟨by rw [← HK.out]; simp [okB], by (repeat' first | (with_reducible first | exact .refl _ _ | assumption | apply balloc | apply Below.drew | apply bset | refine bstep ?_ ‹_› | refine bturn ?_ ‹_› ?_) | go_size)⟩
           · have h1b : (o != 1) = true := by simpa using h1
             cases zv with
             | false =>
               go_wp2_with fail
               go_meet
               case rel => exact ⟨by rw [← HK.out]; simp [okB, *], by (repeat' first | (with_reducible first | exact .refl _ _ | assumption | apply balloc | apply Below.drew | apply bset | refine bstep ?_ ‹_› | refine bturn ?_ ‹_› ?_) | go_size)⟩
             | true =>
               go_wp2_with fail
               refine (KV.out _ (S2.out).bel).mono ?_
               rintro e wv ⟨rfl, hbv⟩
               have kv := (K2.out).step hbv
               obtain ⟨hlz, hllz, qz0, qz1, qz2, qz3, qz4, qz5, qz6, qz7, zz0, zz1, zz2, zz3, zz4, zz5, zz6, zz7⟩ := bf8 kv; (try simp at qz0 qz1 qz2 qz3 qz4 qz5 qz6 qz7); have Hkv := Lib.hid kv; clear kv
               cases sd with
               | false =>
                 go_wp2_with fail
                 go_meet
                 case rel => exact ⟨by rw [← HK.out]; simp [okB, *], by (repeat' first | (with_reducible first | exact .refl _ _ | assumption | apply balloc | apply Below.drew | apply bset | refine bstep ?_ ‹_› | refine bturn ?_ ‹_› ?_) | go_size)⟩
               | true =>
                 cases ng with
                 | false =>
                   go_wp2_with fail
                   go_meet
                   case rel => exact ⟨by rw [← HK.out]; simp [okB, *], by (repeat' first | (with_reducible first | exact .refl _ _ | assumption | apply balloc | apply Below.drew | apply bset | refine bstep ?_ ‹_› | refine bturn ?_ ‹_› ?_) | go_size)⟩
                 | true =>
                   go_wp2_with fail
                   go_meet
                   case rel => exact ⟨by rw [← HK.out]; simp [okB, *], by (repeat' first | (with_reducible first | exact .refl _ _ | assumption | apply balloc | apply Below.drew | apply bset | refine bstep ?_ ‹_› | refine bturn ?_ ‹_› ?_) | go_size)⟩
     case rest =>
       obtain ⟨rfl, hb4⟩ := hcut
       rename World => w4
       clear qx0 qx1 qx2 qx3 qx4 qx5 qx6 qx7 zx0 zx1 zx2 zx3 zx4 zx5 zx6 zx7 hlx hllx
       have S4 := Lib.hid (S2.out.step hb4)
       have G4 := Lib.hid (G2.out.bstep hb4)
       have k4 := K2.out.step hb4
       have C4 : Hid (CL w4 (w.heap.size + 1) (w.heap.size + 1 + 1) lb d) := Lib.hid ⟨keep1 hb4 C2.out.d, keep1 hb4 C2.out.p, C2.out.nd, C2.out.np⟩
       clear S2 G2 K2 C2 hb4
       clear HK
       cases K with
       | false =>
         rw [show (!false) = true from rfl]
         go_wp2_with fail
         go_returns
         exact ⟨by simp, by simpa using S4.out, G4.out⟩
       | true =>
         rw [show (!true) = false from rfl]
         obtain ⟨hlx, hllx, qx0, qx1, qx2, qx3, qx4, qx5, qx6, qx7, zx0, zx1, zx2, zx3, zx4, zx5, zx6, zx7⟩ := bf8 k4; (try simp at qx0 qx1 qx2 qx3 qx4 qx5 qx6 qx7); have Hk4 := Lib.hid k4; clear k4
         go_wp2_with fail
         have hcc : d ≤ 64 ∧ 0 ≤ l1 := by have := HC.out; simp only [Bool.and_eq_true, decide_eq_true_eq] at this; exact ⟨this.1, this.2.1⟩
         refine (KC.out hcc.1 hcc.2 _ _ _ S4.out C4.out).mono ?_
         rintro e w5 ⟨rfl, h5, g5⟩
         clear qx0 qx1 qx2 qx3 qx4 qx5 qx6 qx7 zx0 zx1 zx2 zx3 zx4 zx5 zx6 zx7 hlx hllx
         go_wp2_with fail
         go_returns
         exact ⟨by simp, by simpa using h5, G4.out.trans g5⟩
end
end Go.Proofs.YtapilekangmcoaaGreatDoor
namespace Go.Proofs.YtapilekangmcoaaGreatDoor
open Go.ChangeShapes Go.WideShapes Go.ChangeAt Go.RowKit Go.Deep Go.Shelf
theorem cells_val : Tryz.prog.cellsOf 25 = 5 := by kernel_rfl
section
variable {H : Type} {enc : TypeId × Value → H} {w : World} {base : Nat} {spare : Nat → Bool} {held : Bool}
theorem val_shape {fuel : Nat} {cs : List Value} {x : DataW H × List MemPlace} (h : DataW.trod enc Tryz.prog w base spare held fuel 25 cs = some x) : ∃ v : Vl, cs = (cellsV v).toList ∧ I64 v.k ∧ VOk v ∧ v.t.length ≤ maxLen := by
 obtain ⟨xs, n, _, _, hl, hxl, hf⟩ := DataW.trod_struct Tryz.underlying25 h
 rw [cells_val] at hl
 match cs, hl with
 | [c0, c1, c2, c3, c4], _ =>
   match xs, hxl with
   | [y0, y1, y2, y3], _ =>
     have h0 := hf 0 _ rfl
     have h1 := hf 1 _ rfl
     have h2 := hf 2 _ rfl
     have h3 := hf 3 _ rfl
     simp only [cells_int, cells_dec, cells_string, List.drop_zero, List.drop_succ_cons, List.take_succ_cons, List.take_zero, List.getElem?_cons_zero, List.getElem?_cons_succ] at h0 h1 h2 h3
     obtain ⟨k, e0, _, wk⟩ := DataW.trod_int Tryz.underlying3 h0
     obtain ⟨t, e2, _, wt⟩ := DataW.trod_string Tryz.underlying9 h2
     obtain ⟨m, e3, _, wm⟩ := DataW.trod_int Tryz.underlying3 h3
     obtain ⟨zs, n', _, _, _, hzl, hg⟩ := DataW.trod_struct Tryz.underlying23 h1
     match zs, hzl with
     | [z0, z1], _ =>
       have g0 := hg 0 _ rfl
       have g1 := hg 1 _ rfl
       simp only [cells_int, List.drop_zero, List.drop_succ_cons, List.take_succ_cons, List.take_zero, List.getElem?_cons_zero, List.getElem?_cons_succ] at g0 g1
       obtain ⟨a, e4, _, wa⟩ := DataW.trod_int Tryz.underlying3 g0
       obtain ⟨b, e5, _, wb⟩ := DataW.trod_int Tryz.underlying3 g1
       cases e0; cases e2; cases e3; cases e4; cases e5
       exact ⟨⟨k, a, b, t.data.toList, m⟩, rfl, lit_i64 wk, ⟨lit_i64 wa, lit_i64 wb, lit_i64 wm⟩, by simpa using wt⟩
end
end Go.Proofs.YtapilekangmcoaaGreatDoor
