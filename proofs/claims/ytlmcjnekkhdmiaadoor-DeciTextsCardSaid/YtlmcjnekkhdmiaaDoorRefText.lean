/- The walk of the reference's Text. -/
import Derived.Test.YtlmcjnekkhdmiaaDoorPdMath
import Derived.Test.YtlmcjnekkhdmiaaDoorRefA
set_option linter.unusedVariables false
set_option linter.unusedSimpArgs false
namespace Go.Proofs.YtlmcjnekkhdmiaaDoor
open Go.RowKit
open Go.Lib hiding intOf
attribute [local go_sem high] run_dec_eql run_dec_neq

theorem digit_string (x : Int) (d : Nat) (hx : x = ((48 + d : Nat) : Int)) (hd : d < 10) (W : World) :
    (convert 38 9 (.slice (some ⟨W.heap.size, 0, none⟩) 1 1)).run Tryd.prog (W.alloc (.cells #[.int .u8 x] 5)) = .ok (.string ⟨#[UInt8.ofNat (48 + d)]⟩) (W.alloc (.cells #[.int .u8 x] 5)) := by
  subst hx
  have h := run_convert_bytes_back (P := Tryd.prog) (W.alloc (.cells #[.int .u8 ((48 + d : Nat) : Int)] 5)) 38 9 5 ⟨W.heap.size, 0, none⟩ 1 [UInt8.ofNat (48 + d)] Tryd.underlying38 Tryd.underlying5 Tryd.underlying9 (fun j hj => by
    obtain rfl : j = 0 := by simp at hj; omega
    show (W.alloc _).cell? _ = some (.int .u8 (((UInt8.ofNat (48 + d)).toNat : Nat) : Int))
    rw [dig_ofNat hd, Lib.add_plain]
    exact (Blk.new W _ _).cell 0)
  exact h

theorem rtext_form (n s : Int) (hn : I64 n) (hs : I64 s) (hf : ¬ soundS n s = true) (w : World) :
    Calls Tryd.prog 5 #[.agg #[.int .i64 n, .int .i64 s]] w fun e w' => e = .returned (.tuple #[.string ⟨#[]⟩, .int .i64 2]) ∧ Below w.heap.size w w' := by
  have HN : Hid (I64 n ∧ I64 s) := ⟨hn, hs⟩
  replace hf : soundS n s = false := by simpa using hf
  clear hn hs
  go_enter Tryd.func5, Tryd.ntmps5
  go_wp2_with fail
  refine (rsound_any n s HN.out.1.1 HN.out.1.2 HN.out.2.1 HN.out.2.2 _).mono ?_
  rintro e w1 ⟨rfl, hb⟩
  go_wp2
  go_returns
  exact ⟨rfl, by (repeat' first | (with_reducible first | exact .refl _ _ | assumption | apply balloc | apply Below.drew | apply bset | refine bstep ?_ ‹_› | refine bturn ?_ ‹_› ?_) | go_size)⟩

/-- The digits of the whole part, before what stands behind them. -/
def wholeT (M k : Nat) (tail : List UInt8) : ByteArray := ⟨(pd k M ++ tail).toArray⟩

set_option maxHeartbeats 4000000 in
set_option maxRecDepth 100000 in
theorem rtext_good (n : Int) (N sc : Nat) (hn : I64 n) (hs6 : sc ≤ 6) (b3 : -999999999999 ≤ n) (b4 : n ≤ 999999999999) (hf : soundS n sc = true) (hN : mag n = (N : Int)) (T : ByteArray) (hT : ⟨(textS (decide (n < 0)) N sc).toArray⟩ = T) (w : World) :
    Calls Tryd.prog 5 #[.agg #[.int .i64 n, .int .i64 sc]] w fun e w' => e = .returned (.tuple #[.string T, .int .i64 0]) ∧ Below w.heap.size w w' := by
  have hm := mag_bd b3 b4
  have hN12 : N < 1000000000000 := by omega
  have hb0 := Blk.new w 23 #[.int .i64 n, .int .i64 sc]
  have HN : Hid (I64 n ∧ I64 sc) := ⟨hn, by unfold I64; omega⟩
  have hz := rsize_any n (by omega) (by omega)
  rw [hN] at hz
  have HZ := Lib.hid hz
  have HTT := Lib.hid hT
  clear hn hN hT hm hz
  go_enter Tryd.func5, Tryd.ntmps5
  go_wp2_with fail
  refine (rsound_any n sc HN.out.1.1 HN.out.1.2 HN.out.2.1 HN.out.2.2 _).mono ?_
  rintro e w1 ⟨rfl, hb⟩
  replace hb0 := hb0.step hb
  have c0 := hb0.cell 0
  have c1 := hb0.cell 1
  simp at c0 c1
  go_wp2_with fail
  refine (HZ.out _).mono ?_
  rintro e _ ⟨rfl, rfl⟩
  have hbl : Below w.heap.size w w1 := by (repeat' first | (with_reducible first | exact .refl _ _ | assumption | apply balloc | apply Below.drew | apply bset | refine bstep ?_ ‹_› | refine bturn ?_ ‹_› ?_) | go_size)
  go_wp2_with fail
  go_loopw [4, 5, 6] (fun v t i wr => ∃ (k m : Nat) (S : ByteArray), k ≤ sc ∧ i = .int .i64 (k : Int) ∧ v = .int .i64 (m : Int) ∧ t = .string S ∧ m = N / 10 ^ k ∧ ⟨(pd k N).toArray⟩ = S ∧ m < 1000000000000 ∧ Blk wr w.heap.size 23 #[.int .i64 n, .int .i64 sc] ∧ Below w.heap.size w wr) (fun _ _ i _ => sc - (intOf i).toNat)
  case atStart => exact ⟨0, N, ⟨#[]⟩, by omega, rfl, rfl, rfl, by simp, rfl, hN12, hb0, hbl⟩
  case round =>
    obtain ⟨k, m, S, hk, rfl, rfl, rfl, hm, hS, hm12, hB, hbr⟩ := hrel
    have hsz : S.size ≤ 6 := by rw [← hS]; show (pd k N).toArray.size ≤ 6; rw [List.size_toArray, pd_length]; omega
    have HMk := Lib.hid hm
    have HS := Lib.hid hS
    clear hm hS
    have d0 := hB.cell 0
    have d1 := hB.cell 1
    simp at d0 d1
    have hl := hB.lt
    by_cases hlt : k < sc
    · have hcv := digit_string (48 + (m : Int) % 10) (m % 10) (by omega) (by omega)
      go_wp2
      go_roundw
      case rel => exact ⟨k + 1, m / 10, _, by omega, by go_num, by go_num, rfl, by rw [HMk.out, Nat.div_div_eq_div_mul, Nat.pow_succ], by
        rw [pd_cons, ← HS.out, ← HMk.out]
        apply ByteArray.ext
        apply Array.toList_inj.1
        simp, by omega, hB.alloc _, by (repeat' first | (with_reducible first | exact .refl _ _ | assumption | apply balloc | apply Below.drew | apply bset | refine bstep ?_ ‹_› | refine bturn ?_ ‹_› ?_) | go_size)⟩
      case measure => simp [intOf]; omega
    · obtain rfl : k = sc := by omega
      obtain ⟨tail, htl, htz⟩ : ∃ tail : List UInt8, tail = (if k = 0 then [] else 46 :: pd k N) ∧ tail.length ≤ 7 := by
        refine ⟨_, rfl, ?_⟩
        split
        · simp
        · rw [List.length_cons, pd_length]; omega
      have hW : ∀ j, nDigits m = j → textU N k = pd j m ++ tail := by
        intro j hj
        unfold textU
        rw [htl, ← HMk.out]
        by_cases h0 : k = 0
        · subst h0
          have : m = N := by rw [HMk.out]; simp
          rw [if_pos rfl, if_pos rfl, ← this, ← hj, List.append_nil]
          exact dec_pd m
        · rw [if_neg h0, if_neg h0, ← hj, ← dec_pd]
      have HW := Lib.hid hW
      have hcv := digit_string (48 + (m : Int) % 10) (m % 10) (by omega) (by omega)
      obtain ⟨S1, hS1⟩ : ∃ S1 : ByteArray, (⟨tail.toArray⟩ : ByteArray) = S1 := ⟨_, rfl⟩
      have hdot : 0 < k → (⟨#[46]⟩ : ByteArray) ++ S = S1 := by
        intro h0
        rw [← hS1, htl, if_neg (by omega), ← HS.out]
        apply ByteArray.ext
        apply Array.toList_inj.1
        simp
      have hnodot : k = 0 → S = S1 := by
        intro h0
        rw [← hS1, htl, if_pos h0, ← HS.out, h0]
        rfl
      have hs17 : S1.size ≤ 7 := by rw [← hS1]; show tail.toArray.size ≤ 7; rw [List.size_toArray]; exact htz
      have hfirst : (⟨#[UInt8.ofNat (48 + m % 10)]⟩ : ByteArray) ++ S1 = wholeT m 1 tail := by
        rw [← hS1]
        apply ByteArray.ext
        apply Array.toList_inj.1
        simp [wholeT, pd]
      have HF := Lib.hid hfirst
      have HS1 := Lib.hid hS1
      have HDot := Lib.hid hdot
      have HNo := Lib.hid hnodot
      have HTl := Lib.hid htl
      clear hfirst hS1 hdot hnodot hW htl
      rcases Nat.eq_zero_or_pos k with hk0 | hk0
      · have hSS := HNo.out hk0
        subst hSS
        have hkz : ¬ (0 : Int) < (k : Int) := by omega
        go_wp2
        go_loopw [4, 5] (fun v t wr => ∃ (j p : Nat) (Q : ByteArray), j ≤ 12 ∧ v = .int .i64 (p : Int) ∧ t = .string Q ∧ p = m / 10 ^ j ∧ wholeT m (j + 1) tail = Q ∧ (j = 0 ∨ 10 ^ j ≤ m) ∧ Blk wr w.heap.size 23 #[.int .i64 n, .int .i64 k] ∧ Below w.heap.size w wr) (fun v _ _ => (intOf v).toNat)
        case atStart => exact ⟨0, m, _, by omega, rfl, rfl, by simp, by rw [← HF.out]; first | rfl | (rw [← hSS]; apply ByteArray.ext; apply Array.toList_inj.1; simp) | (apply ByteArray.ext; apply Array.toList_inj.1; simp), .inl rfl, hB.alloc _, by (repeat' first | (with_reducible first | exact .refl _ _ | assumption | apply balloc | apply Below.drew | apply bset | refine bstep ?_ ‹_› | refine bturn ?_ ‹_› ?_) | go_size)⟩
        case round =>
          obtain ⟨j, p, Q, hj, rfl, rfl, hp, hQ, hz, hB2, hbr2⟩ := hrel
          have hQs : Q.size ≤ 21 := by rw [← hQ]; show (pd (j + 1) m ++ tail).toArray.size ≤ 21; rw [List.size_toArray, List.length_append, pd_length]; omega
          have hp12 : p < 1000000000000 := by rw [hp]; exact Nat.lt_of_le_of_lt (Nat.div_le_self _ _) hm12
          have hge : 10 ≤ p → 10 ^ (j + 1) ≤ m ∧ j + 1 ≤ 12 := by
            intro h10
            have h1 : 10 * 10 ^ j ≤ m := by
              rw [hp] at h10
              have := Nat.mul_le_of_le_div _ _ _ h10
              omega
            refine ⟨by rw [Nat.pow_succ]; omega, ?_⟩
            apply Nat.le_of_not_lt
            intro h3
            have h4 : 10 ^ 12 ≤ 10 ^ j := Nat.pow_le_pow_right (by decide) (by omega)
            omega
          have hlt10 : ¬ 10 ≤ p → nDigits m = j + 1 := by
            intro h10
            rw [hp] at h10
            have hpp : 0 < 10 ^ j := Nat.pow_pos (by decide)
            have h1 : m < 10 ^ (j + 1) := by
              rw [Nat.pow_succ, Nat.mul_comm]
              exact (Nat.div_lt_iff_lt_mul hpp).1 (by omega)
            rcases hz with h0 | h0
            · subst h0; exact nDigits_small (by simpa using h1)
            · exact nDigits_unique j m h0 h1
          have HG := Lib.hid hge
          have HL := Lib.hid hlt10
          have HPp := Lib.hid hp
          have HQ := Lib.hid hQ
          clear hge hlt10 hp hQ hz hcv
          have f0 := hB2.cell 0
          have f1 := hB2.cell 1
          simp at f0 f1
          have hl2 := hB2.lt
          by_cases h10 : 10 ≤ p
          · have hcv := digit_string (48 + (p : Int) / 10 % 10) (p / 10 % 10) (by omega) (by omega)
            go_wp2
            go_roundw
            case rel => exact ⟨j + 1, p / 10, _, (HG.out h10).2, by go_num, rfl, by rw [HPp.out, Nat.div_div_eq_div_mul, Nat.pow_succ], by
              rw [← HQ.out]
              have e : m / 10 ^ (j + 1) % 10 = p / 10 % 10 := by rw [HPp.out, Nat.div_div_eq_div_mul, Nat.pow_succ]
              apply ByteArray.ext
              apply Array.toList_inj.1
              unfold wholeT
              rw [pd_cons, e]
              simp, .inr (HG.out h10).1, hB2.alloc _, by (repeat' first | (with_reducible first | exact .refl _ _ | assumption | apply balloc | apply Below.drew | apply bset | refine bstep ?_ ‹_› | refine bturn ?_ ‹_› ?_) | go_size)⟩
            case measure => simp [intOf]; omega
          · have hfin := HW.out _ (HL.out h10)
            by_cases hneg : n < 0
            · have hTe : (⟨#[45]⟩ : ByteArray) ++ Q = T := by
                rw [← HTT.out, ← HQ.out]
                unfold textS wholeT
                rw [decide_eq_true hneg, hfin]
                apply ByteArray.ext
                apply Array.toList_inj.1
                simp
              have HTe := Lib.hid hTe
              clear hTe hfin
              go_wp2
              go_returns
              exact ⟨by rw [← HTe.out]; rfl, by (repeat' first | (with_reducible first | exact .refl _ _ | assumption | apply balloc | apply Below.drew | apply bset | refine bstep ?_ ‹_› | refine bturn ?_ ‹_› ?_) | go_size)⟩
            · have hTe : Q = T := by
                rw [← HTT.out, ← HQ.out]
                unfold textS wholeT
                rw [decide_eq_false hneg, hfin]
                rfl
              have HTe := Lib.hid hTe
              clear hTe hfin
              go_wp2
              go_returns
              exact ⟨by rw [← HTe.out]; rfl, by (repeat' first | (with_reducible first | exact .refl _ _ | assumption | apply balloc | apply Below.drew | apply bset | refine bstep ?_ ‹_› | refine bturn ?_ ‹_› ?_) | go_size)⟩
      · have hSS := HDot.out hk0
        have hkz : (0 : Int) < (k : Int) := by omega
        go_wp2
        go_loopw [4, 5] (fun v t wr => ∃ (j p : Nat) (Q : ByteArray), j ≤ 12 ∧ v = .int .i64 (p : Int) ∧ t = .string Q ∧ p = m / 10 ^ j ∧ wholeT m (j + 1) tail = Q ∧ (j = 0 ∨ 10 ^ j ≤ m) ∧ Blk wr w.heap.size 23 #[.int .i64 n, .int .i64 k] ∧ Below w.heap.size w wr) (fun v _ _ => (intOf v).toNat)
        case atStart => exact ⟨0, m, _, by omega, rfl, rfl, by simp, by rw [← HF.out]; first | rfl | (rw [← hSS]; apply ByteArray.ext; apply Array.toList_inj.1; simp) | (apply ByteArray.ext; apply Array.toList_inj.1; simp), .inl rfl, hB.alloc _, by (repeat' first | (with_reducible first | exact .refl _ _ | assumption | apply balloc | apply Below.drew | apply bset | refine bstep ?_ ‹_› | refine bturn ?_ ‹_› ?_) | go_size)⟩
        case round =>
          obtain ⟨j, p, Q, hj, rfl, rfl, hp, hQ, hz, hB2, hbr2⟩ := hrel
          have hQs : Q.size ≤ 21 := by rw [← hQ]; show (pd (j + 1) m ++ tail).toArray.size ≤ 21; rw [List.size_toArray, List.length_append, pd_length]; omega
          have hp12 : p < 1000000000000 := by rw [hp]; exact Nat.lt_of_le_of_lt (Nat.div_le_self _ _) hm12
          have hge : 10 ≤ p → 10 ^ (j + 1) ≤ m ∧ j + 1 ≤ 12 := by
            intro h10
            have h1 : 10 * 10 ^ j ≤ m := by
              rw [hp] at h10
              have := Nat.mul_le_of_le_div _ _ _ h10
              omega
            refine ⟨by rw [Nat.pow_succ]; omega, ?_⟩
            apply Nat.le_of_not_lt
            intro h3
            have h4 : 10 ^ 12 ≤ 10 ^ j := Nat.pow_le_pow_right (by decide) (by omega)
            omega
          have hlt10 : ¬ 10 ≤ p → nDigits m = j + 1 := by
            intro h10
            rw [hp] at h10
            have hpp : 0 < 10 ^ j := Nat.pow_pos (by decide)
            have h1 : m < 10 ^ (j + 1) := by
              rw [Nat.pow_succ, Nat.mul_comm]
              exact (Nat.div_lt_iff_lt_mul hpp).1 (by omega)
            rcases hz with h0 | h0
            · subst h0; exact nDigits_small (by simpa using h1)
            · exact nDigits_unique j m h0 h1
          have HG := Lib.hid hge
          have HL := Lib.hid hlt10
          have HPp := Lib.hid hp
          have HQ := Lib.hid hQ
          clear hge hlt10 hp hQ hz hcv
          have f0 := hB2.cell 0
          have f1 := hB2.cell 1
          simp at f0 f1
          have hl2 := hB2.lt
          by_cases h10 : 10 ≤ p
          · have hcv := digit_string (48 + (p : Int) / 10 % 10) (p / 10 % 10) (by omega) (by omega)
            go_wp2
            go_roundw
            case rel => exact ⟨j + 1, p / 10, _, (HG.out h10).2, by go_num, rfl, by rw [HPp.out, Nat.div_div_eq_div_mul, Nat.pow_succ], by
              rw [← HQ.out]
              have e : m / 10 ^ (j + 1) % 10 = p / 10 % 10 := by rw [HPp.out, Nat.div_div_eq_div_mul, Nat.pow_succ]
              apply ByteArray.ext
              apply Array.toList_inj.1
              unfold wholeT
              rw [pd_cons, e]
              simp, .inr (HG.out h10).1, hB2.alloc _, by (repeat' first | (with_reducible first | exact .refl _ _ | assumption | apply balloc | apply Below.drew | apply bset | refine bstep ?_ ‹_› | refine bturn ?_ ‹_› ?_) | go_size)⟩
            case measure => simp [intOf]; omega
          · have hfin := HW.out _ (HL.out h10)
            by_cases hneg : n < 0
            · have hTe : (⟨#[45]⟩ : ByteArray) ++ Q = T := by
                rw [← HTT.out, ← HQ.out]
                unfold textS wholeT
                rw [decide_eq_true hneg, hfin]
                apply ByteArray.ext
                apply Array.toList_inj.1
                simp
              have HTe := Lib.hid hTe
              clear hTe hfin
              go_wp2
              go_returns
              exact ⟨by rw [← HTe.out]; rfl, by (repeat' first | (with_reducible first | exact .refl _ _ | assumption | apply balloc | apply Below.drew | apply bset | refine bstep ?_ ‹_› | refine bturn ?_ ‹_› ?_) | go_size)⟩
            · have hTe : Q = T := by
                rw [← HTT.out, ← HQ.out]
                unfold textS wholeT
                rw [decide_eq_false hneg, hfin]
                rfl
              have HTe := Lib.hid hTe
              clear hTe hfin
              go_wp2
              go_returns
              exact ⟨by rw [← HTe.out]; rfl, by (repeat' first | (with_reducible first | exact .refl _ _ | assumption | apply balloc | apply Below.drew | apply bset | refine bstep ?_ ‹_› | refine bturn ?_ ‹_› ?_) | go_size)⟩
end Go.Proofs.YtlmcjnekkhdmiaaDoor
