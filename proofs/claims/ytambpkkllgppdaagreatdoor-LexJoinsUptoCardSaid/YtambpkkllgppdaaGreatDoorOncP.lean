/- What reading a number or a day says of it: it is sound, and its own text is read as it. What is read can be written, and is no longer than three times what was read. -/
import Derived.Test.YtambpkkllgppdaaGreatDoorBckP
import Derived.Test.YtambpkkllgppdaaGreatDoorDaysBk
namespace Go.Proofs.YtambpkkllgppdaaGreatDoor
open Go.RowKit
open Go.Lib hiding intOf

theorem short_end : ∀ (k : Nat) (n : Int), (short k n).2 = 0 ∨ ¬ (short k n).1 % 10 = 0
  | 0, n => .inl rfl
  | k + 1, n => by
    rw [short]
    split
    · exact short_end k _
    · rename_i h; exact .inr h
/-- A number that was read is sound, and its text is no longer. -/
def NumOk (R : Res) (len : Nat) : Prop := 0 ≤ R.n ∧ soundS R.n R.s = true ∧ (textU R.n.toNat R.s.toNat).length ≤ len
theorem num_dec {pt wh u len : Nat} (hu : u < 10 ^ (wh + pt)) (hw : 1 ≤ wh) (h6 : pt ≤ 6) (hlen : wh + pt ≤ len) (hdot : 0 < pt → wh + 1 + pt ≤ len) (he : (decS pt (u : Int) false).e = 0) : NumOk (decS pt (u : Int) false) len := by
  obtain ⟨b1, b2, b3, b4⟩ := short_bd pt (u : Int) (by omega)
  have hend := short_end pt (u : Int)
  unfold decS at he ⊢
  split at he
  · cases he
  · rename_i hb
    rw [if_neg hb]
    have hbig := big_def
    have hN : ((short pt (u : Int)).1.toNat : Int) = (short pt (u : Int)).1 := Int.toNat_of_nonneg b1
    have hS : ((short pt (u : Int)).2.toNat : Int) = (short pt (u : Int)).2 := Int.toNat_of_nonneg b3
    refine ⟨by simpa using b1, ?_, ?_⟩
    · rw [sound_iff]
      unfold soundB
      simp only [Bool.false_eq_true, if_false]
      exact decide_eq_true ⟨b3, by omega, by omega, by omega, hend⟩
    · simp only [Bool.false_eq_true, if_false]
      have hNu : (short pt (u : Int)).1.toNat < 10 ^ (wh + pt) := by omega
      have hd := nDigits_le (by omega) hNu
      unfold textU
      split
      · rw [decDigits_length]; omega
      · rename_i h0
        have h2 := nDigits_div (N := (short pt (u : Int)).1.toNat) (sc := (short pt (u : Int)).2.toNat)
        rw [List.length_append, decDigits_length, List.length_cons, pd_length]
        have := hdot (by omega)
        omega
theorem reads_num (s : ByteArray) (m : Int) (hs : s.size < 4294967281) (h45 : byteAt s 0 ≠ 45) : ∃ R : Res, (∀ w : World, w.cell? ⟨0, 0, none⟩ = some (.int .i64 m) → Calls Tryz.prog 58 #[.string s] w fun x w' => x = .returned (.tuple #[.agg #[.int .i64 R.n, .int .i64 R.s], .int .i64 R.e]) ∧ Below w.heap.size w w') ∧ (R.e = 0 → NumOk R s.size) := by
  obtain ⟨r, wh, pa, pt, minus, dot, P⟩ := parts_ex s hs
  have C := P.cut
  obtain rfl : minus = false := by
    cases minus with
    | false => rfl
    | true => exact absurd (P.m1 rfl).2.1 h45
  have hsr := (P.m0 rfl).1
  by_cases good : (allDig wh.data.toList = true ∧ (dot = true → allDig pa.data.toList = true)) ∧ ¬ (dot = true ∧ pa.size = 0) ∧ wh.size ≠ 0 ∧ ¬ lead wh
  · obtain ⟨g1, g2, g3, g4⟩ := good
    have dw : digB wh = true := digB_iff.2 ⟨g3, g1.1⟩
    have dp : dot = false ∨ dot = true ∧ digB pa = true := by
      cases hd : dot with
      | false => exact .inl rfl
      | true => exact .inr ⟨rfl, digB_iff.2 ⟨fun h0 => g2 ⟨hd, h0⟩, g1.2 hd⟩⟩
    by_cases big : 6 < pt.size ∨ 12 < wh.size
    · refine ⟨⟨0, 0, 3⟩, fun w hm => ?_, fun h => by cases h⟩
      rcases lead_ways g4 with l1 | ⟨l1, l2⟩
      · have h6 : 6 < pt.size := by omega
        exact parse_Do C dw dp l1 h6 m w hm
      · by_cases h6 : 6 < pt.size
        · exact parse_Dt C dw dp l1 l2 h6 m w hm
        · exact parse_Et C dw dp l1 l2 (by omega) (by omega) m w hm
    · obtain ⟨t, ht⟩ := trim_sub pa.data.toList
      rw [C.h4] at ht
      have hpt : allDig pt.data.toList = true := by
        rcases dp with hd | ⟨_, hd⟩
        · have hpa := (P.w3 hd).2
          have h0 : pt.data.toList = [] := by rw [← C.h4, hpa]; rfl
          rw [h0]; rfl
        · have := (digB_iff.1 hd).2
          rw [ht] at this
          unfold allDig at this ⊢
          rw [List.all_append, Bool.and_eq_true] at this
          exact this.1
      have hall : allDig (wh ++ pt).data.toList = true := by
        rw [ByteArray.data_append, Array.toList_append]
        unfold allDig at g1 hpt ⊢
        rw [List.all_append, Bool.and_eq_true]
        exact ⟨g1.1, hpt⟩
      have hsz : (wh ++ pt).data.toList.length = (wh ++ pt).size := by simp
      obtain ⟨u, u1, u2, u3⟩ := digits_of (wh ++ pt).size (wh ++ pt).data.toList hsz hall
      have hsize : (wh ++ pt).size = wh.size + pt.size := ByteArray.size_append
      have hle : 10 ^ (wh ++ pt).size ≤ 10 ^ 18 := Nat.pow_le_pow_right (by decide) (by omega)
      have hu : Lib.parseUintB 64 (wh ++ pt).data.toList = .ok u := by
        unfold Lib.parseUintB
        rw [if_neg (by intro e; rw [e] at hsz; simp at hsz; omega)]
        exact uintM_of _ 0 u hall u1 (by omega)
      have hpl : pt.size ≤ pa.size := by
        have := congrArg List.length ht
        rw [List.length_append] at this
        have a1 : pa.data.toList.length = pa.size := by simp
        have a2 : pt.data.toList.length = pt.size := by simp
        omega
      have hwr := P.w1
      have hlen : dot = true → wh.size + 1 + pa.size = s.size := fun hd => by
        obtain ⟨q1, _, _, q4⟩ := P.w2 hd
        rw [← q4, ByteArray.size_extract, ← hsr]
        rw [← hsr] at q1
        omega
      have hnod : dot = false → pt.size = 0 := fun hd => by
        have hpa := (P.w3 hd).2
        rw [hpa] at hpl
        exact Nat.le_zero.1 hpl
      refine ⟨decS pt.size (u : Int) false, fun w hm => ?_, fun he => ?_⟩
      · rcases lead_ways g4 with l1 | ⟨l1, l2⟩
        · exact parse_Fo C dw dp l1 (by omega) (by omega) u hu (by omega) m w hm
        · exact parse_Ft C dw dp l1 l2 (by omega) (by omega) u hu (by omega) m w hm
      · rw [hsize] at u2
        rw [← hsr] at hwr
        cases hd : dot with
        | false =>
          have h0 := hnod hd
          exact num_dec u2 (by omega) (by omega) (by omega) (fun h => by omega) he
        | true =>
          have h0 := hlen hd
          exact num_dec u2 (by omega) (by omega) (by omega) (fun h => by omega) he
  · refine ⟨⟨0, 0, 5⟩, fun w hm => ?_, fun h => by cases h⟩
    cases dw : digB wh with
    | false => exact parse_A C dw m w hm
    | true =>
      by_cases hd : dot = true ∧ digB pa = false
      · exact parse_B C dw hd.1 hd.2 m w hm
      · have dp : dot = false ∨ dot = true ∧ digB pa = true := by
          cases hdt : dot with
          | false => exact .inl rfl
          | true =>
            cases hpa : digB pa with
            | true => exact .inr ⟨rfl, rfl⟩
            | false => exact absurd ⟨hdt, hpa⟩ hd
        by_cases hl : lead wh
        · refine parse_C C dw dp hl.1 ?_ m w hm
          have := hl.2
          rw [byteAt_eq wh 0 (by have := hl.1; omega)] at this
          rw [this]; rfl
        · exfalso
          have w0 := digB_iff.1 dw
          apply good
          refine ⟨⟨w0.2, fun hdt => ?_⟩, fun h => ?_, w0.1, hl⟩
          · rcases dp with h | ⟨_, h⟩
            · rw [hdt] at h; cases h
            · exact (digB_iff.1 h).2
          · rcases dp with h2 | ⟨_, h2⟩
            · rw [h.1] at h2; cases h2
            · exact (digB_iff.1 h2).1 h.2
end Go.Proofs.YtambpkkllgppdaaGreatDoor
namespace Go.Proofs.YtambpkkllgppdaaGreatDoor.Days
open Go.RowKit
open Go.Lib hiding intOf
theorem day_range {y m d : Int} (h : (dayR y m d).e = 0) : 0 ≤ (dayR y m d).n ∧ (dayR y m d).n ≤ 3652058 := by
  unfold dayR at h ⊢
  split at h
  · rename_i ok
    rw [if_pos ok]
    obtain ⟨a, b, c, e, f, g⟩ := ok
    obtain ⟨k, hk⟩ : ∃ k : Nat, m = (k : Int) + 1 := ⟨(m - 1).toNat, by omega⟩
    subst hk
    have h1 := cum_bd y k
    have h2 := cum_succ y k
    have h3 := cum_mono y (a := k + 1) (b := 12) (by omega)
    have h4 := cum_12 y
    have h5 := first_succ y
    have h6 := first_mono (a := y + 1) (b := 10000) (by omega)
    have h7 := first_10000
    have h8 := first_ge a
    have h9 := len_bd y ((k : Int) + 1)
    show 0 ≤ dayN _ _ _ ∧ dayN _ _ _ ≤ _
    unfold dayN
    rw [show ((k : Int) + 1 - 1).toNat = k by omega]
    omega
  · cases h
theorem days_form (s : ByteArray) (m : Int) (hs : s.size < 4294967281) : ∃ n e : Int, (∀ w : World, w.cell? ⟨0, 0, none⟩ = some (.int .i64 m) → Calls Tryz.prog 34 #[.string s] w fun x w' => x = .returned (.tuple #[.int .i64 n, .int .i64 e]) ∧ Below w.heap.size w w') ∧ (e = 0 → 0 ≤ n ∧ n ≤ 3652058) := by
  by_cases h2 : countB s ⟨#[45]⟩ = 2
  · obtain ⟨a, b, c, hp, l1, l2, l3⟩ := splitB_three h2
    refine ⟨_, _, fun w hm => parse_parts s a b c m hs (by omega) (by omega) (by omega) h2 hp w hm, fun h => ?_⟩
    unfold parseR at h ⊢
    split at h
    · rename_i hg
      rw [if_pos hg]
      exact day_range h
    · cases h
  · exact ⟨0, 5, fun w hm => parse_few s m _ hs rfl (by omega) w hm, fun h => by cases h⟩
theorem pd_bytes {k n : Nat} {x : UInt8} (h : x ∈ pd k n) : x ≠ 34 ∧ x ≠ 92 := by
  have h1 := allDig_pd k n
  unfold allDig at h1
  have h2 := of_decide_eq_true (List.all_eq_true.1 h1 x h)
  constructor
  · rintro rfl; exact absurd h2.1 (by decide)
  · rintro rfl; exact absurd h2.2 (by decide)
/-- A day's text is read as it. -/
theorem text_read (n : Int) (h0 : 0 ≤ n) (h1 : n ≤ 3652058) : ∃ l : Bs, l.length = 10 ∧ (∀ x ∈ l, x ≠ 34 ∧ x ≠ 92) ∧ (∀ w, Lib.TabIs Tryz.prog w "internal/strconv.uint64pow10" .u64 Lib.pow10Tab → Calls Tryz.prog 47 #[.int .i64 n] w fun x w' => x = .returned (.tuple #[.string (bs l), .int .i64 0]) ∧ Below w.heap.size w w') ∧ (∀ (q : Int) (w : World), w.cell? ⟨0, 0, none⟩ = some (.int .i64 q) → Calls Tryz.prog 34 #[.string (bs l)] w fun x w' => x = .returned (.tuple #[.int .i64 n, .int .i64 0]) ∧ Below w.heap.size w w') := by
  obtain ⟨y, m, a, b, c, d, e, f, g⟩ := date_of n h0 h1
  have hl := len_bd y ((m : Int) + 1)
  have hs := cum_succ y m
  have hok : okD y ((m : Int) + 1) (n - firstS y - cumS y m + 1) := ⟨a, b, by omega, by omega, by omega, by omega⟩
  have hn : dayN y ((m : Int) + 1) (n - firstS y - cumS y m + 1) = n := by
    unfold dayN
    rw [show ((m : Int) + 1 - 1).toNat = m by omega]
    omega
  have hr : dayR y ((m : Int) + 1) (n - firstS y - cumS y m + 1) = ⟨n, 0⟩ := by unfold dayR; rw [if_pos hok, hn]
  refine ⟨textL y.toNat (m + 1) (n - firstS y - cumS y m + 1).toNat, textL_length _ _ _, fun x hx => ?_, fun w ht => text_ok n y m h0 h1 a b c d e f g w ht, fun q w hm => ?_⟩
  · unfold textL at hx
    simp only [List.mem_append, List.mem_cons] at hx
    rcases hx with h | h | h | h | h
    · exact pd_bytes h
    · subst h; decide
    · exact pd_bytes h
    · subst h; decide
    · exact pd_bytes h
  · have := parse_text y.toNat (m + 1) (n - firstS y - cumS y m + 1).toNat (by omega) (by omega) (by omega) q _ rfl w hm
    rw [Int.toNat_of_nonneg (by omega), Int.toNat_of_nonneg (by omega), show (((m + 1 : Nat) : Int)) = (m : Int) + 1 by omega, hr] at this
    exact this
end Go.Proofs.YtambpkkllgppdaaGreatDoor.Days

namespace Go.Proofs.YtambpkkllgppdaaGreatDoor
open Go.RowKit
open Go.Lib hiding intOf

theorem qS_esc : ∀ (t m : Bs), qS (escB t ++ 34 :: m) = some (t, (escB t).length + 1)
  | [], m => by
    show qS (34 :: m) = _
    rw [qS_cons, if_pos rfl]
    rfl
  | c :: t, m => by
    rw [escB, List.append_assoc, List.length_append]
    by_cases h1 : c = 92
    · subst h1
      show qS (92 :: 92 :: (escB t ++ 34 :: m)) = some (92 :: t, 2 + (escB t).length + 1)
      rw [qS_cons, if_neg (by decide), if_pos rfl]
      simp [qS_esc t m]
      omega
    · by_cases h2 : c = 34
      · subst h2
        show qS (92 :: 34 :: (escB t ++ 34 :: m)) = some (34 :: t, 2 + (escB t).length + 1)
        rw [qS_cons, if_neg (by decide), if_pos rfl]
        simp [qS_esc t m]
        omega
      · rw [escC_same h2 h1]
        show qS (c :: (escB t ++ 34 :: m)) = some (c :: t, 1 + (escB t).length + 1)
        rw [qS_cons, if_neg h2, if_neg h1, qS_esc t m]
        simp
        omega
theorem qS_plain : ∀ (l m : Bs), (∀ x ∈ l, x ≠ 34 ∧ x ≠ 92) → qS (l ++ 34 :: m) = some (l, l.length + 1)
  | [], m, _ => by
    show qS (34 :: m) = _
    rw [qS_cons, if_pos rfl]
    rfl
  | c :: l, m, h => by
    obtain ⟨h1, h2⟩ := h c (List.mem_cons_self ..)
    rw [List.cons_append, qS_cons, if_neg h1, if_neg h2, qS_plain l m fun x hx => h x (List.mem_cons_of_mem _ hx)]
    rfl
theorem qS_more : ∀ (k : Nat) (l : Bs) (p : Bs × Nat), l.length ≤ k → qS l = some p → p.1.length + 1 ≤ p.2
  | _, [], _, _, h => by simp [qS] at h
  | 0, c :: r, _, hk, _ => by simp at hk
  | k + 1, c :: r, p, hk, h => by
    rw [qS_cons] at h
    rw [List.length_cons] at hk
    by_cases h1 : c = 34
    · rw [if_pos h1] at h
      cases h
      simp
    · rw [if_neg h1] at h
      by_cases h2 : c = 92
      · rw [if_pos h2] at h
        cases r with
        | nil => cases h
        | cons d r2 =>
          simp only at h
          rw [List.length_cons] at hk
          by_cases h3 : d = 34 ∨ d = 92
          · rw [if_pos h3] at h
            cases hq : qS r2 with
            | none => rw [hq] at h; cases h
            | some q =>
              rw [hq] at h
              have := qS_more k r2 q (by omega) hq
              cases h
              simp only [List.length_cons]
              omega
          · rw [if_neg h3] at h; cases h
      · rw [if_neg h2] at h
        cases hq : qS r with
        | none => rw [hq] at h; cases h
        | some q =>
          rw [hq] at h
          have := qS_more k r q (by omega) hq
          cases h
          simp only [List.length_cons]
          omega

theorem figs_dig {x : UInt8} (h : 48 ≤ x.toNat ∧ x.toNat ≤ 57) : figs.contains x = true := by
  have h2 : x.toNat = 48 ∨ x.toNat = 49 ∨ x.toNat = 50 ∨ x.toNat = 51 ∨ x.toNat = 52 ∨ x.toNat = 53 ∨ x.toNat = 54 ∨ x.toNat = 55 ∨ x.toNat = 56 ∨ x.toNat = 57 := by omega
  rcases h2 with h | h | h | h | h | h | h | h | h | h
  · obtain rfl : x = 48 := UInt8.toNat_inj.1 h; rfl
  · obtain rfl : x = 49 := UInt8.toNat_inj.1 h; rfl
  · obtain rfl : x = 50 := UInt8.toNat_inj.1 h; rfl
  · obtain rfl : x = 51 := UInt8.toNat_inj.1 h; rfl
  · obtain rfl : x = 52 := UInt8.toNat_inj.1 h; rfl
  · obtain rfl : x = 53 := UInt8.toNat_inj.1 h; rfl
  · obtain rfl : x = 54 := UInt8.toNat_inj.1 h; rfl
  · obtain rfl : x = 55 := UInt8.toNat_inj.1 h; rfl
  · obtain rfl : x = 56 := UInt8.toNat_inj.1 h; rfl
  · obtain rfl : x = 57 := UInt8.toNat_inj.1 h; rfl
theorem figs_pd {k n : Nat} {x : UInt8} (h : x ∈ pd k n) : figs.contains x = true := by
  have h1 := allDig_pd k n
  unfold allDig at h1
  exact figs_dig (of_decide_eq_true (List.all_eq_true.1 h1 x h))
theorem runS_len {S : Bs} : ∀ {l : Bs}, (∀ x ∈ l, S.contains x = true) → runS S l = l.length
  | [], _ => rfl
  | c :: l, h => by
    rw [runS_cons, if_pos (h c (List.mem_cons_self ..)), runS_len fun x hx => h x (List.mem_cons_of_mem _ hx)]
    rfl
theorem numLen_text (N sc : Nat) : numLen (textU N sc) = (textU N sc).length := by
  unfold textU
  split
  · have h : ∀ x ∈ decDigits N, figs.contains x = true := fun x hx => by rw [dec_pd] at hx; exact figs_pd hx
    unfold numLen
    rw [runS_len h, List.drop_length, if_neg (by decide)]
  · rename_i h0
    obtain ⟨k, rfl⟩ : ∃ k, sc = k + 1 := ⟨sc - 1, by omega⟩
    have h : ∀ x ∈ decDigits (N / 10 ^ (k + 1)), figs.contains x = true := fun x hx => by rw [dec_pd] at hx; exact figs_pd hx
    have hp : runS figs (pd (k + 1) N) = (pd (k + 1) N).length := runS_len fun x hx => figs_pd hx
    have hd : dotted (46 :: pd (k + 1) N) = true := by
      rw [pd_cons]
      show figs.contains _ = true
      exact figs_pd (k := k + 1) (n := N) (by rw [pd_cons]; exact List.mem_cons_self ..)
    unfold numLen
    rw [runS_app figs (show figs.contains 46 = false from rfl), runS_len h, List.drop_left' rfl, if_pos hd]
    have hdr : (decDigits (N / 10 ^ (k + 1)) ++ 46 :: pd (k + 1) N).drop ((decDigits (N / 10 ^ (k + 1))).length + 1) = pd (k + 1) N := by
      rw [← List.drop_drop, List.drop_left' rfl]
      rfl
    rw [hdr, hp, List.length_append, List.length_cons]
    omega
theorem text_head (N sc : Nat) : ∃ c r, textU N sc = c :: r ∧ figs.contains c = true := by
  have h : ∀ M : Nat, ∃ c r, decDigits M = c :: r ∧ figs.contains c = true := fun M => by
    obtain ⟨k, hk⟩ : ∃ k, nDigits M = k + 1 := ⟨nDigits M - 1, by have := nDigits_pos M; omega⟩
    refine ⟨_, _, by rw [dec_pd, hk, pd_cons], ?_⟩
    exact figs_pd (k := k + 1) (n := M) (by rw [pd_cons]; exact List.mem_cons_self ..)
  unfold textU
  split
  · exact h N
  · obtain ⟨c, r, h1, h2⟩ := h (N / 10 ^ sc)
    exact ⟨c, _, by rw [h1]; rfl, h2⟩

theorem lxP_eq (m : Int) (w : World) (hw : OKW m w) (l : Bs) (hl : l.length ≤ 4000000) {a b c : Int} {Q : World → Prop}
    (h : Calls Tryz.prog 58 #[.string (bs l)] w fun e w' => e = .returned (.tuple #[.agg #[.int .i64 a, .int .i64 b], .int .i64 c]) ∧ Q w') : (lxP m l).n = a ∧ (lxP m l).s = b ∧ (lxP m l).e = c := by
  have h1 := (lx_ok m).P (bs l) l rfl hl w hw
  have h2 := calls_det (by kernel_rfl) h1 h
  simp at h2
  exact ⟨h2.1.1, h2.1.2, h2.2⟩
theorem lxD_eq (m : Int) (w : World) (hw : OKW m w) (l : Bs) (hl : l.length ≤ 4000000) {a c : Int} {Q : World → Prop}
    (h : Calls Tryz.prog 34 #[.string (bs l)] w fun e w' => e = .returned (.tuple #[.int .i64 a, .int .i64 c]) ∧ Q w') : (lxD m l).1 = a ∧ (lxD m l).2 = c := by
  have h1 := (lx_ok m).D (bs l) l rfl hl w hw
  have h2 := calls_det (by kernel_rfl) h1 h
  simp at h2
  exact h2
theorem yT_eq (m : Int) (w : World) (hw : OKW m w) (n : Int) {l : Bs} {c : Int} {Q : World → Prop}
    (h : Calls Tryz.prog 47 #[.int .i64 n] w fun e w' => e = .returned (.tuple #[.string (bs l), .int .i64 c]) ∧ Q w') : (yT n).1 = l ∧ (yT n).2 = c := by
  have h1 := (yT_spec n).2.1 w hw.tab
  have h2 := calls_det (by kernel_rfl) h1 h
  simp at h2
  refine ⟨?_, h2.2⟩
  have := congrArg (fun b : ByteArray => b.data.toList) h2.1
  exact this

theorem ok0 : I64 0 := ⟨by decide, by decide⟩
/-- What wants to be known of a token. -/
structure Once (x : Lx) (t : Ti) (n : Nat) : Prop where
  wr : ∃ o, wrS x t = some o ∧ o.length + 1 ≤ 3 * n
  ok : t.Ok
  len : t.t.length ≤ 100000
theorem wr_of {x : Lx} {t : Ti} {o : Bs} (h : outS t = some o) (hk : okT (nextS x (o ++ [32])) o t) : wrS x t = some o := by
  unfold wrS
  rw [h]
  exact if_pos hk
theorem once_num (m : Int) (w : World) (hw : OKW m w) (c : UInt8) (r : Bs) (hl : (c :: r).length ≤ 100000) (hc : figs.contains c = true) (he : (numS (lxX m) (c :: r)).e = 0) : Once (lxX m) (numS (lxX m) (c :: r)).t.i (numS (lxX m) (c :: r)).n := by
  have hn := numLen_le (c :: r)
  obtain ⟨k, hk⟩ : ∃ k, numLen (c :: r) = k := ⟨_, rfl⟩
  have hk1 : 1 ≤ k := by
    rw [← hk]
    unfold numLen
    have := runS_head (l := r) hc
    split <;> omega
  unfold numS at he ⊢
  rw [hk] at he hn ⊢
  obtain ⟨q, hq⟩ : ∃ q, (c :: r).take k = q := ⟨_, rfl⟩
  have hql : q.length = k := by rw [← hq, List.length_take]; omega
  have h45 : byteAt (bs q) 0 ≠ 45 := by
    obtain ⟨j, rfl⟩ : ∃ j, k = j + 1 := ⟨k - 1, by omega⟩
    rw [← hq]
    show c ≠ 45
    rintro rfl
    cases hc
  rw [hq] at he ⊢
  obtain ⟨R, hR, hok⟩ := reads_num (bs q) m (by rw [bs_size]; omega) h45
  obtain ⟨e1, e2, e3⟩ := lxP_eq m w hw q (by omega) (hR w hw.hm)
  have he2 : R.e = 0 := e3.symm.trans he
  obtain ⟨n0, sd, hlen⟩ := hok he2
  obtain ⟨b1, b2, b3, b4, _⟩ := sound_bd sd
  have hP : (lxX m).P q = lxP m q := rfl
  show Once (lxX m) ⟨1, 0, [], ((lxX m).P q).n, ((lxX m).P q).s, 0⟩ k
  rw [hP, e1, e2]
  have hm0 : decide (R.n < 0) = false := decide_eq_false (by omega)
  have hmg : mag R.n = R.n := by unfold mag; rw [if_neg (by omega)]
  have hdt : dT R.n R.s = (textU R.n.toNat R.s.toNat, 0) := by
    unfold dT
    rw [if_pos sd, hm0, hmg]
    rfl
  have ho : outS ⟨1, 0, [], R.n, R.s, 0⟩ = some (textU R.n.toNat R.s.toNat) := by
    unfold outS
    simp only [hdt]
    rw [if_pos trivial, if_pos ⟨by omega, trivial, trivial, trivial⟩]
  rw [bs_size, hql] at hlen
  refine ⟨⟨_, wr_of ho ?_, by omega⟩, ⟨(show I64 R.n from ⟨by omega, by omega⟩), (show I64 R.s from ⟨by omega, by omega⟩), ok0⟩, by simp⟩
  obtain ⟨c', r', h1, h2⟩ := text_head R.n.toNat R.s.toNat
  have hnx : nextS (lxX m) (textU R.n.toNat R.s.toNat ++ [32]) = numS (lxX m) (textU R.n.toNat R.s.toNat ++ 32 :: []) := by
    rw [h1, List.cons_append]
    unfold nextS
    exact if_pos h2
  rw [hnx, num_app]
  unfold numS
  rw [numLen_text, List.take_length]
  have hb := parse_back R.n R.s R.n.toNat R.s.toNat sd (by omega) (by rw [hmg]; omega) (bs (textU R.n.toNat R.s.toNat)) (by rw [hm0]; rfl) m w hw.hm
  obtain ⟨g1, g2, g3⟩ := lxP_eq m w hw _ (by omega) hb
  exact ⟨g3, rfl, rfl, rfl, g1, g2, rfl⟩
theorem once_str (m : Int) (r : Bs) (hl : r.length ≤ 100000) (he : (strS (lxX m) r).e = 0) : Once (lxX m) (strS (lxX m) r).t.i (strS (lxX m) r).n := by
  unfold strS at he ⊢
  cases hq : qS r with
  | none => rw [hq] at he; cases he
  | some p =>
    rw [hq] at he
    simp only at he ⊢
    split at he
    · cases he
    · rename_i hc
      rw [if_neg hc]
      have h1 := qS_more r.length r p (Nat.le_refl _) hq
      have h2 := escB_two p.1
      have h3 := (qS_app r.length r [] p (Nat.le_refl _) hq).2.1
      have hp : p.1.length ≤ 256 := by omega
      have hG : ¬ (lxX m).G p.1 = false := fun h => hc (.inr h)
      have ho : outS ⟨2, 0, p.1, 0, 0, 0⟩ = some (34 :: (escB p.1 ++ [34])) := by simp [outS]
      show Once (lxX m) ⟨2, 0, p.1, 0, 0, 0⟩ (p.2 + 1)
      refine ⟨⟨_, wr_of ho ?_, by simp; omega⟩, ⟨ok0, ok0, ok0⟩, by show p.1.length ≤ _; omega⟩
      have hnx : nextS (lxX m) (34 :: (escB p.1 ++ [34]) ++ [32]) = strS (lxX m) (escB p.1 ++ 34 :: [32]) := by
        rw [List.cons_append, List.append_assoc]
        rfl
      rw [hnx]
      unfold strS
      rw [qS_esc]
      simp only
      rw [if_neg (by rintro (h | h); · omega
                     · exact hG h)]
      exact ⟨rfl, by simp, rfl, rfl, rfl, rfl, rfl⟩
theorem once_date (m : Int) (w : World) (hw : OKW m w) (r : Bs) (hl : r.length ≤ 100000) (he : (dateS (lxX m) r).e = 0) : Once (lxX m) (dateS (lxX m) r).t.i (dateS (lxX m) r).n := by
  unfold dateS at he ⊢
  cases hq : quoD r with
  | none => rw [hq] at he; cases he
  | some p =>
    rw [hq] at he
    simp only at he ⊢
    split at he
    · cases he
    · rename_i hc
      rw [if_neg hc]
      have h11 : p.2 = 11 := Classical.byContradiction fun hn => hc (.inr hn)
      have hD : ((lxX m).D p.1).2 = 0 := Classical.byContradiction fun hn => hc (.inl hn)
      have hpl : p.1.length + 1 ≤ p.2 := by
        unfold quoD at hq
        split at hq
        · exact qS_more _ _ p (Nat.le_refl _) hq
        · cases hq
      obtain ⟨n, e, hn, hr⟩ := Days.days_form (bs p.1) m (by rw [bs_size]; omega)
      obtain ⟨e1, e2⟩ := lxD_eq m w hw p.1 (by omega) (hn w hw.hm)
      have hDe : (lxX m).D p.1 = lxD m p.1 := rfl
      rw [hDe] at hD ⊢
      obtain ⟨d0, d1⟩ := hr (e2.symm.trans hD)
      rw [e1]
      obtain ⟨l, l10, lb, lt, lp⟩ := Days.text_read n d0 d1
      obtain ⟨y1, y2⟩ := yT_eq m w hw n (lt w hw.tab)
      have ho : outS ⟨3, 0, [], 0, 0, n⟩ = some (64 :: 34 :: (l ++ [34])) := by
        simp [outS, y1, y2]
      show Once (lxX m) ⟨3, 0, [], 0, 0, n⟩ 13
      refine ⟨⟨_, wr_of ho ?_, by simp; omega⟩, ⟨ok0, ok0, (show I64 n from ⟨by omega, by omega⟩)⟩, by simp⟩
      have hnx : nextS (lxX m) (64 :: 34 :: (l ++ [34]) ++ [32]) = dateS (lxX m) (34 :: (l ++ 34 :: [32])) := by
        rw [List.cons_append, List.cons_append, List.append_assoc]
        rfl
      rw [hnx]
      obtain ⟨g1, g2⟩ := lxD_eq m w hw l (by omega) (lp m w hw.hm)
      have hDl : (lxX m).D l = (n, 0) := by
        show lxD m l = _
        rw [← g1, ← g2]
      have hqd : quoD (34 :: (l ++ 34 :: [32])) = some (l, 11) := by
        unfold quoD
        rw [if_pos (show (34 :: (l ++ 34 :: [32])).head? = some 34 from rfl)]
        show qS (l ++ 34 :: [32]) = _
        rw [qS_plain l [32] lb, l10]
      unfold dateS
      rw [hqd]
      simp only [hDl]
      rw [if_neg (by simp)]
      exact ⟨rfl, by simp [l10], rfl, rfl, rfl, rfl, rfl⟩
theorem once_name (m : Int) (c : UInt8) (r : Bs) (hl : (c :: r).length ≤ 100000) (h1 : ¬ figs.contains c = true) (h2 : ¬ c = 34) (h3 : ¬ c = 64) (h4 : lets.contains c = true) (he : (nameS (c :: r)).e = 0) : Once (lxX m) (nameS (c :: r)).t.i (nameS (c :: r)).n := by
  have h5 : 1 ≤ runS (lets ++ figs) (c :: r) := runS_head (by
    rw [List.contains_iff_mem] at h4 ⊢
    exact List.mem_append_left _ h4)
  unfold nameS at he ⊢
  split at he
  · cases he
  · rename_i hc
    rw [if_neg hc]
    obtain ⟨k, hk⟩ : ∃ k, runS (lets ++ figs) (c :: r) = k := ⟨_, rfl⟩
    have hkl := runS_le (lets ++ figs) (c :: r)
    rw [hk] at h5 hc hkl ⊢
    obtain ⟨j, rfl⟩ : ∃ j, k = j + 1 := ⟨k - 1, by omega⟩
    have htl : ((c :: r).take (j + 1)).length = j + 1 := by rw [List.length_take]; omega
    have ho : outS ⟨4, 0, (c :: r).take (j + 1), 0, 0, 0⟩ = some ((c :: r).take (j + 1)) := by simp [outS]
    show Once (lxX m) ⟨4, 0, (c :: r).take (j + 1), 0, 0, 0⟩ (j + 1)
    refine ⟨⟨_, wr_of ho ?_, by rw [htl]; show j + 1 + 1 ≤ 3 * (j + 1); omega⟩, ⟨ok0, ok0, ok0⟩, by show ((c :: r).take (j + 1)).length ≤ _; omega⟩
    have hnx : nextS (lxX m) ((c :: r).take (j + 1) ++ [32]) = nameS ((c :: r).take (j + 1) ++ 32 :: []) := by
      rw [List.take_succ_cons, List.cons_append]
      unfold nextS
      simp only
      rw [if_neg h1, if_neg h2, if_neg h3, if_pos h4]
    have hrun : runS (lets ++ figs) ((c :: r).take (j + 1)) = j + 1 := by
      have := runS_take (S := lets ++ figs) (l := c :: r)
      rw [hk] at this
      rw [this]
    rw [hnx, name_app]
    unfold nameS
    rw [hrun, if_neg hc]
    refine ⟨rfl, htl.symm, rfl, ?_, rfl, rfl, rfl⟩
    show ((c :: r).take (j + 1)).take (j + 1) = (c :: r).take (j + 1)
    rw [List.take_take, Nat.min_self]
where
  runS_take {S : Bs} : ∀ {l : Bs}, runS S (l.take (runS S l)) = runS S l
    | [] => rfl
    | c :: l => by
      rw [runS_cons]
      split
      · rename_i h
        rw [List.take_succ_cons, runS_cons, if_pos h, runS_take]
      · rfl
theorem sign_back (x : Lx) (g : Bs) (h : g ∈ signsL) : nextS x (g ++ [32]) = ⟨⟨5, 0, g, 0, 0, 0⟩, g.length, 0⟩ := by
  simp only [signsL, List.mem_cons, List.not_mem_nil, or_false] at h
  rcases h with h | h | h | h | h | h | h | h | h | h | h | h | h | h | h | h <;> subst h <;> kernel_rfl
theorem once_sign (m : Int) (l : Bs) (he : (signS l).e = 0) : Once (lxX m) (signS l).t.i (signS l).n := by
  unfold signS at he ⊢
  cases hf : signsL.find? (fun g => g.isPrefixOf l) with
  | none => rw [hf] at he; cases he
  | some g =>
    have hg := List.mem_of_find?_eq_some hf
    have hl : 1 ≤ g.length ∧ g.length ≤ 2 := by
      have h := hg
      simp only [signsL, List.mem_cons, List.not_mem_nil, or_false] at h
      rcases h with h | h | h | h | h | h | h | h | h | h | h | h | h | h | h | h <;> subst h <;> decide
    have ho : outS ⟨5, 0, g, 0, 0, 0⟩ = some g := by simp [outS]
    show Once (lxX m) ⟨5, 0, g, 0, 0, 0⟩ g.length
    refine ⟨⟨_, wr_of ho ?_, by show g.length + 1 ≤ 3 * g.length; omega⟩, ⟨ok0, ok0, ok0⟩, by show g.length ≤ _; omega⟩
    rw [sign_back _ g hg]
    exact ⟨rfl, rfl, rfl, rfl, rfl, rfl, rfl⟩
theorem once_next (m : Int) (w : World) (hw : OKW m w) (l : Bs) (hl : l.length ≤ 100000) (he : (nextS (lxX m) l).e = 0) : Once (lxX m) (nextS (lxX m) l).t.i (nextS (lxX m) l).n := by
  match l with
  | [] => cases he
  | c :: r =>
    have hr : r.length ≤ 100000 := by rw [List.length_cons] at hl; omega
    unfold nextS at he ⊢
    simp only at he ⊢
    by_cases h1 : figs.contains c = true
    · rw [if_pos h1] at he ⊢
      exact once_num m w hw c r hl h1 he
    · rw [if_neg h1] at he ⊢
      by_cases h2 : c = 34
      · rw [if_pos h2] at he ⊢
        exact once_str m r hr he
      · rw [if_neg h2] at he ⊢
        by_cases h3 : c = 64
        · rw [if_pos h3] at he ⊢
          exact once_date m w hw r hr he
        · rw [if_neg h3] at he ⊢
          by_cases h4 : lets.contains c = true
          · rw [if_pos h4] at he ⊢
            exact once_name m c r hl h1 h2 h3 h4 he
          · rw [if_neg h4] at he ⊢
            exact once_sign m (c :: r) he

def lenS1 (P : List Bs) : Nat := (P.map fun o => o.length + 1).sum
theorem joinB_len : ∀ P : List Bs, (joinB P).length ≤ lenS1 P
  | [] => by simp [joinB]
  | [t] => by simp [joinB, lenS1]
  | t :: u :: r => by
    have := joinB_len (u :: r)
    unfold lenS1 at this ⊢
    rw [joinB, List.length_append, List.length_cons, List.map_cons, List.sum_cons]
    omega
/-- What is read can be written. -/
theorem once_toks (m : Int) (w : World) (hw : OKW m w) : ∀ (f a : Nat) (l : Bs) (acc : List Tk), l.length ≤ 100000 → (toksA (lxX m) f a l acc).e = 0 →
    ∃ (T : List Tk) (P : List Bs), (toksA (lxX m) f a l acc).l = acc ++ T ∧ allS ((T.map Tk.i).map (wrS (lxX m))) = some P ∧ lenS1 P ≤ 3 * l.length ∧ (∀ t ∈ T.map Tk.i, t.Ok ∧ t.t.length ≤ 1900000) ∧ T.length ≤ l.length
  | 0, a, l, acc, _, _ => ⟨[], [], by simp [toksA], rfl, by simp [lenS1], fun t h => by simp at h, by simp⟩
  | f + 1, a, l, acc, hl, he => by
    cases hd : l.drop (runS whites l) with
    | nil => exact ⟨[], [], by rw [toksA_end hd]; simp, rfl, by simp [lenS1], fun t h => by simp at h, by simp⟩
    | cons c r =>
      by_cases hn : (nextS (lxX m) (c :: r)).e = 0
      · have hld := len_drop hd
        have hbd := next_bd (lxX m) _ hn
        obtain ⟨⟨o, ho, hol⟩, hok, hlen⟩ := once_next m w hw (c :: r) (by omega) hn
        rw [toksA_go hd hn] at he ⊢
        have hdl : ((c :: r).drop (nextS (lxX m) (c :: r)).n).length + (nextS (lxX m) (c :: r)).n = (c :: r).length := by rw [List.length_drop]; omega
        obtain ⟨T, P, h1, h2, h3, h4, h5⟩ := once_toks m w hw f _ _ _ (by omega) he
        refine ⟨{ (nextS (lxX m) (c :: r)).t with a := a + runS whites l } :: T, o :: P, by rw [h1]; simp, ?_, ?_, ?_, by rw [List.length_cons]; omega⟩
        · rw [List.map_cons, List.map_cons]
          have hw2 : wrS (lxX m) (Tk.i { (nextS (lxX m) (c :: r)).t with a := a + runS whites l }) = some o := ho
          rw [hw2]
          show (allS ((T.map Tk.i).map (wrS (lxX m)))).map (o :: ·) = _
          rw [h2]
          rfl
        · unfold lenS1 at h3 ⊢
          rw [List.map_cons, List.sum_cons]
          omega
        · intro t ht
          rw [List.map_cons] at ht
          rcases List.mem_cons.1 ht with h | h
          · subst h
            exact ⟨⟨hok.n, hok.s, hok.m⟩, by show (nextS (lxX m) (c :: r)).t.t.length ≤ _; have : (nextS (lxX m) (c :: r)).t.t.length ≤ 100000 := hlen; omega⟩
          · exact h4 t h
      · rw [toksA_bad hd hn] at he
        exact absurd he hn
end Go.Proofs.YtambpkkllgppdaaGreatDoor
