/- The walk of the program's Text. -/
import Derived.Test.YtlmcjnekkhdmiaaDoorPdMath
import Derived.Test.YtlmcjnekkhdmiaaDoorTextA
set_option linter.unusedVariables false
set_option linter.unusedSimpArgs false
namespace Go.Proofs.YtlmcjnekkhdmiaaDoor
open Go.RowKit
open Go.Lib hiding intOf
attribute [local go_sem high] run_dec_eql run_dec_neq

theorem repeat48 : ∀ c : Nat, repeatL [48] c = List.replicate c 48
  | 0 => rfl
  | c + 1 => by
    rw [List.replicate_succ, ← repeat48 c]
    rfl
theorem repeat_lit (c : Nat) (ci : Int) (R : ByteArray) (hc : c ≤ 100) (hci : (c : Int) = ci) (hR : ⟨(List.replicate c (48 : UInt8)).toArray⟩ = R) (w : World) :
    Calls Tryd.prog 12 #[.string ⟨#[48]⟩, .int .i64 ci] w fun e w' => e = .returned (.string R) ∧ Below w.heap.size w w' := by
  subst hci
  refine (Tryd.strings_Repeat ⟨#[48]⟩ c w (by omega) (by show 1 * c ≤ _; omega)).mono ?_
  rintro e w' ⟨rfl, hb⟩
  have : repeatL (⟨#[48]⟩ : ByteArray).data.toList c = List.replicate c 48 := repeat48 c
  rw [this, hR]
  exact ⟨rfl, hb⟩
theorem fmt_nat (N : Nat) (Ni : Int) (hNi : (N : Int) = Ni) (D : ByteArray) (hN : N < 18446744073709551616) (hD : ⟨(decDigits N).toArray⟩ = D) (w : World) (htab : Lib.TabIs Tryd.prog w "internal/strconv.uint64pow10" .u64 Lib.pow10Tab) :
    Calls Tryd.prog 10 #[.int .u64 Ni, .int .i64 10] w fun e w' => e = .returned (.string D) ∧ Below w.heap.size w w' := by
  subst hNi; subst hD
  exact fmt_any N hN w htab
theorem size_nat (n s Ni : Int) (h0 : -999999999999 ≤ n) (h1 : n ≤ 999999999999) (hNi : mag n = Ni) (w : World) :
    Calls Tryd.prog 11 #[.agg #[.int .i64 n, .int .i64 s]] w fun e w' => e = .returned (.int .u64 Ni) ∧ Below w.heap.size w w' := by
  subst hNi
  refine (size_any n s h0 h1 w).mono ?_
  rintro e w' ⟨rfl, rfl⟩
  exact ⟨rfl, by (repeat' first | (with_reducible first | exact .refl _ _ | assumption | apply balloc | apply Below.drew | apply bset | refine bstep ?_ ‹_› | refine bturn ?_ ‹_› ?_) | go_size)⟩

theorem text_form (n s : Int) (hn : I64 n) (hs : I64 s) (hf : ¬ soundS n s = true) (w : World) :
    Calls Tryd.prog 4 #[.agg #[.int .i64 n, .int .i64 s]] w fun e w' => e = .returned (.tuple #[.string ⟨#[]⟩, .int .i64 2]) ∧ Below w.heap.size w w' := by
  have HN : Hid (I64 n ∧ I64 s) := ⟨hn, hs⟩
  clear hn hs
  go_enter Tryd.func4, Tryd.ntmps4
  go_wp2_with fail
  refine (all_1 n s HN.out.1 HN.out.2 _ _ 23 _ (Blk.new' _ _ _ (by simp))).mono ?_
  rintro e w1 ⟨rfl, hb⟩
  rw [if_neg hf]
  clear hf
  go_wp2
  go_returns
  exact ⟨rfl, by (repeat' first | (with_reducible first | exact .refl _ _ | assumption | apply balloc | apply Below.drew | apply bset | refine bstep ?_ ‹_› | refine bturn ?_ ‹_› ?_) | go_size)⟩

set_option maxHeartbeats 2000000 in
set_option maxRecDepth 100000 in
theorem text_whole (n : Int) (N : Nat) (hn : I64 n) (b3 : -999999999999 ≤ n) (b4 : n ≤ 999999999999) (hf : soundS n 0 = true) (hN : mag n = (N : Int)) (T : ByteArray) (hT : ⟨(textS (decide (n < 0)) N 0).toArray⟩ = T) (w : World) (htab : Lib.TabIs Tryd.prog w "internal/strconv.uint64pow10" .u64 Lib.pow10Tab) :
    Calls Tryd.prog 4 #[.agg #[.int .i64 n, .int .i64 0]] w fun e w' => e = .returned (.tuple #[.string T, .int .i64 0]) ∧ Below w.heap.size w w' := by
  have hm := mag_bd b3 b4
  have hb0 := Blk.new w 23 #[.int .i64 n, .int .i64 0]
  have HN : Hid (I64 n) := hn
  have HT := Lib.hid (Lib.tabBelow_of_tabIs htab)
  obtain ⟨D, hD⟩ : ∃ D : ByteArray, ⟨(decDigits N).toArray⟩ = D := ⟨_, rfl⟩
  have hL : D.size ≤ 12 := by
    rw [← hD]
    show (decDigits N).toArray.size ≤ 12
    rw [List.size_toArray, decDigits_length]
    exact nDigits_le (by decide) (by omega)
  have HS := Lib.hid (fun w => size_nat n 0 (N : Int) b3 b4 hN w)
  have HF := Lib.hid (fun w h => fmt_nat N (N : Int) rfl D (by omega) hD w h)
  have HD := Lib.hid hD
  have HTT := Lib.hid hT
  clear htab hn hN hD hT hm
  by_cases hneg : n < 0
  · have e : textS (decide (n < 0)) N 0 = 45 :: decDigits N := by unfold textS textU; rw [decide_eq_true hneg]; rfl
    have E := Lib.hid e
    clear e
    go_enter Tryd.func4, Tryd.ntmps4
    go_wp2_with fail
    refine (all_1 n 0 HN.out (by unfold I64; omega) _ _ 23 _ (Blk.new' _ _ _ (by simp))).mono ?_
    rintro e w1 ⟨rfl, hb⟩
    replace hb0 := (hb0.alloc _).step hb
    rw [if_pos hf]
    clear hf
    have c0 := hb0.cell 0
    have c1 := hb0.cell 1
    simp at c0 c1
    go_wp2_with fail
    refine (HS.out _).mono ?_
    rintro e w2 ⟨rfl, hb2⟩
    go_wp2_with fail
    refine (HF.out _ (HT.out _ (by (repeat' first | (with_reducible first | exact .refl _ _ | assumption | apply balloc | apply Below.drew | apply bset | refine bstep ?_ ‹_› | refine bturn ?_ ‹_› ?_) | go_size)))).mono ?_
    rintro e w3 ⟨rfl, hb3⟩
    replace hb0 := (hb0.step hb2).step hb3
    have d0 := hb0.cell 0
    have d1 := hb0.cell 1
    simp at d0 d1
    clear c0 c1
    go_wp2
    go_returns
    exact ⟨by
      rw [← HTT.out, E.out, ← HD.out]
      rw [show (⟨(45 :: decDigits N).toArray⟩ : ByteArray) = ⟨#[45]⟩ ++ ⟨(decDigits N).toArray⟩ from by apply ByteArray.ext; apply Array.toList_inj.1; simp]
      rfl, by (repeat' first | (with_reducible first | exact .refl _ _ | assumption | apply balloc | apply Below.drew | apply bset | refine bstep ?_ ‹_› | refine bturn ?_ ‹_› ?_) | go_size)⟩
  · have e : textS (decide (n < 0)) N 0 = decDigits N := by unfold textS textU; rw [decide_eq_false hneg]; rfl
    have E := Lib.hid e
    clear e
    go_enter Tryd.func4, Tryd.ntmps4
    go_wp2_with fail
    refine (all_1 n 0 HN.out (by unfold I64; omega) _ _ 23 _ (Blk.new' _ _ _ (by simp))).mono ?_
    rintro e w1 ⟨rfl, hb⟩
    replace hb0 := (hb0.alloc _).step hb
    rw [if_pos hf]
    clear hf
    have c0 := hb0.cell 0
    have c1 := hb0.cell 1
    simp at c0 c1
    go_wp2_with fail
    refine (HS.out _).mono ?_
    rintro e w2 ⟨rfl, hb2⟩
    go_wp2_with fail
    refine (HF.out _ (HT.out _ (by (repeat' first | (with_reducible first | exact .refl _ _ | assumption | apply balloc | apply Below.drew | apply bset | refine bstep ?_ ‹_› | refine bturn ?_ ‹_› ?_) | go_size)))).mono ?_
    rintro e w3 ⟨rfl, hb3⟩
    replace hb0 := (hb0.step hb2).step hb3
    have d0 := hb0.cell 0
    have d1 := hb0.cell 1
    simp at d0 d1
    clear c0 c1
    go_wp2
    go_returns
    exact ⟨by rw [← HTT.out, E.out, HD.out]; rfl, by (repeat' first | (with_reducible first | exact .refl _ _ | assumption | apply balloc | apply Below.drew | apply bset | refine bstep ?_ ‹_› | refine bturn ?_ ‹_› ?_) | go_size)⟩

set_option maxHeartbeats 2000000 in
set_option maxRecDepth 100000 in
theorem text_part (n : Int) (N sc : Nat) (hn : I64 n) (b3 : -999999999999 ≤ n) (b4 : n ≤ 999999999999) (hs0 : 0 < sc) (hs6 : sc ≤ 6) (hf : soundS n sc = true) (hN : mag n = (N : Int)) (T : ByteArray) (hT : ⟨(textS (decide (n < 0)) N sc).toArray⟩ = T) (w : World) (htab : Lib.TabIs Tryd.prog w "internal/strconv.uint64pow10" .u64 Lib.pow10Tab) :
    Calls Tryd.prog 4 #[.agg #[.int .i64 n, .int .i64 sc]] w fun e w' => e = .returned (.tuple #[.string T, .int .i64 0]) ∧ Below w.heap.size w w' := by
  have hm := mag_bd b3 b4
  have hb0 := Blk.new w 23 #[.int .i64 n, .int .i64 sc]
  have HN : Hid (I64 n ∧ I64 sc) := ⟨hn, by unfold I64; omega⟩
  have HT := Lib.hid (Lib.tabBelow_of_tabIs htab)
  obtain ⟨D, hD⟩ : ∃ D : ByteArray, ⟨(decDigits N).toArray⟩ = D := ⟨_, rfl⟩
  have hLe : D.size = nDigits N := by
    rw [← hD]
    show (decDigits N).toArray.size = _
    rw [List.size_toArray, decDigits_length]
  have hL : D.size ≤ 12 := by rw [hLe]; exact nDigits_le (by decide) (by omega)
  obtain ⟨R, hR⟩ : ∃ R : ByteArray, ⟨(List.replicate (sc + 1 - nDigits N) (48 : UInt8)).toArray⟩ = R := ⟨_, rfl⟩
  have hRL : R.size = sc + 1 - nDigits N := by rw [← hR]; show (List.replicate _ (48 : UInt8)).toArray.size = _; simp
  obtain ⟨P, hP⟩ : ∃ P : ByteArray, R ++ D = P := ⟨_, rfl⟩
  have hPM : P.size = max (nDigits N) (sc + 1) := by rw [← hP, ByteArray.size_append]; omega
  obtain ⟨q, hq⟩ : ∃ q : Nat, max (nDigits N) (sc + 1) - sc = q := ⟨_, rfl⟩
  have hPq : P.size = q + sc := by omega
  have hq12 : q ≤ 12 := by omega
  have hU : ((P.extract 0 q ++ ⟨#[46]⟩) ++ P.extract q P.size) = (⟨(textU N sc).toArray⟩ : ByteArray) := by
    apply ByteArray.ext
    apply Array.toList_inj.1
    have hPd : P.data.toList = List.replicate (sc + 1 - nDigits N) 48 ++ decDigits N := by rw [← hP, ← hR, ← hD]; simp
    rw [ByteArray.data_append, ByteArray.data_append, Array.toList_append, Array.toList_append, Lib.extract_from_zero, Lib.extract_to_end, hPd, ← hq]
    exact cut_text hs0
  have HS := Lib.hid (fun w => size_nat n sc (N : Int) b3 b4 hN w)
  have HF := Lib.hid (fun w h => fmt_nat N (N : Int) rfl D (by omega) hD w h)
  have HR := Lib.hid (fun w => repeat_lit (sc + 1 - nDigits N) ((sc + 1 - nDigits N : Nat) : Int) R (by omega) rfl hR w)
  have hmx : max (0 : Int) ((sc : Int) + 1 - (D.size : Int)) = ((sc + 1 - nDigits N : Nat) : Int) := by rw [hLe]; omega
  have HTT := Lib.hid hT
  have HP := Lib.hid hP
  have HU := Lib.hid hU
  have hR12 : R.size ≤ 12 := by omega
  have hP20 : P.size ≤ 20 := by omega
  have hPi : (P.size : Int) - (sc : Int) = (q : Int) := by omega
  have hq0 : (q : Int) ≤ (P.size : Int) := by omega
  have hq1 : (0 : Int) ≤ (q : Int) := by omega
  have hx1 : (P.extract 0 q).size ≤ 20 := by rw [ByteArray.size_extract]; omega
  have hx2 : (P.extract q P.size).size ≤ 20 := by rw [ByteArray.size_extract]; omega
  have hx3 : (P.extract 0 q ++ ⟨#[46]⟩).size ≤ 40 := by rw [ByteArray.size_append]; show (P.extract 0 q).size + 1 ≤ 40; omega
  generalize hcn : sc + 1 - nDigits N = cn at *
  clear htab hn hN hD hT hm hLe hR hRL hP hPM hq hU hcn hPq
  have ha1 : min q P.size ≤ 9223372036854775806 := by omega
  have ha2 : min q P.size + 1 + (P.size - q) ≤ 9223372036854775807 := by omega
  by_cases hneg : n < 0
  · have e : textS (decide (n < 0)) N sc = 45 :: textU N sc := by unfold textS; rw [decide_eq_true hneg]; rfl
    have E := Lib.hid e
    clear e
    go_enter Tryd.func4, Tryd.ntmps4
    go_wp2_with fail
    refine (all_1 n sc HN.out.1 HN.out.2 _ _ 23 _ (Blk.new' _ _ _ (by simp))).mono ?_
    rintro e w1 ⟨rfl, hb⟩
    replace hb0 := (hb0.alloc _).step hb
    rw [if_pos hf]
    clear hf
    have c0 := hb0.cell 0
    have c1 := hb0.cell 1
    simp at c0 c1
    go_wp2_with fail
    refine (HS.out _).mono ?_
    rintro e w2 ⟨rfl, hb2⟩
    go_wp2_with fail
    refine (HF.out _ (HT.out _ (by (repeat' first | (with_reducible first | exact .refl _ _ | assumption | apply balloc | apply Below.drew | apply bset | refine bstep ?_ ‹_› | refine bturn ?_ ‹_› ?_) | go_size)))).mono ?_
    rintro e w3 ⟨rfl, hb3⟩
    replace hb0 := (hb0.step hb2).step hb3
    have d0 := hb0.cell 0
    have d1 := hb0.cell 1
    simp at d0 d1
    clear c0 c1
    go_wp2_with fail
    refine (HR.out _).mono ?_
    rintro e w4 ⟨rfl, hb4⟩
    replace hb0 := hb0.step hb4
    have e0 := hb0.cell 0
    have e1 := hb0.cell 1
    simp at e0 e1
    clear d0 d1 hmx
    have hRD := HP.out
    have kP : IntKind.i64.wrap (q : Int) = (q : Int) := IntWalk.i64_in _ (by omega)
    go_wp2_with fail
    go_region
    clear kP hRD
    go_wp2_with fail
    go_returns
    exact ⟨by
      rw [← HTT.out, E.out]
      rw [show (⟨(45 :: textU N sc).toArray⟩ : ByteArray) = ⟨#[45]⟩ ++ ⟨(textU N sc).toArray⟩ from by apply ByteArray.ext; apply Array.toList_inj.1; simp]
      rw [← HU.out]
      rfl, by (repeat' first | (with_reducible first | exact .refl _ _ | assumption | apply balloc | apply Below.drew | apply bset | refine bstep ?_ ‹_› | refine bturn ?_ ‹_› ?_) | go_size)⟩
  · have e : textS (decide (n < 0)) N sc = textU N sc := by unfold textS; rw [decide_eq_false hneg]; rfl
    have E := Lib.hid e
    clear e
    go_enter Tryd.func4, Tryd.ntmps4
    go_wp2_with fail
    refine (all_1 n sc HN.out.1 HN.out.2 _ _ 23 _ (Blk.new' _ _ _ (by simp))).mono ?_
    rintro e w1 ⟨rfl, hb⟩
    replace hb0 := (hb0.alloc _).step hb
    rw [if_pos hf]
    clear hf
    have c0 := hb0.cell 0
    have c1 := hb0.cell 1
    simp at c0 c1
    go_wp2_with fail
    refine (HS.out _).mono ?_
    rintro e w2 ⟨rfl, hb2⟩
    go_wp2_with fail
    refine (HF.out _ (HT.out _ (by (repeat' first | (with_reducible first | exact .refl _ _ | assumption | apply balloc | apply Below.drew | apply bset | refine bstep ?_ ‹_› | refine bturn ?_ ‹_› ?_) | go_size)))).mono ?_
    rintro e w3 ⟨rfl, hb3⟩
    replace hb0 := (hb0.step hb2).step hb3
    have d0 := hb0.cell 0
    have d1 := hb0.cell 1
    simp at d0 d1
    clear c0 c1
    go_wp2_with fail
    refine (HR.out _).mono ?_
    rintro e w4 ⟨rfl, hb4⟩
    replace hb0 := hb0.step hb4
    have e0 := hb0.cell 0
    have e1 := hb0.cell 1
    simp at e0 e1
    clear d0 d1 hmx
    have hRD := HP.out
    have kP : IntKind.i64.wrap (q : Int) = (q : Int) := IntWalk.i64_in _ (by omega)
    go_wp2_with fail
    go_region
    clear kP hRD
    go_wp2_with fail
    go_returns
    exact ⟨by rw [← HTT.out, E.out, ← HU.out]; rfl, by (repeat' first | (with_reducible first | exact .refl _ _ | assumption | apply balloc | apply Below.drew | apply bset | refine bstep ?_ ‹_› | refine bturn ?_ ‹_› ?_) | go_size)⟩

/-- Text of a sound number. -/
theorem text_any (n s : Int) (N sc : Nat) (hn : I64 n) (hs : s = (sc : Int)) (hf : soundS n s = true) (hN : mag n = (N : Int)) (T : ByteArray) (hT : ⟨(textS (decide (n < 0)) N sc).toArray⟩ = T) (w : World) (htab : Lib.TabIs Tryd.prog w "internal/strconv.uint64pow10" .u64 Lib.pow10Tab) :
    Calls Tryd.prog 4 #[.agg #[.int .i64 n, .int .i64 s]] w fun e w' => e = .returned (.tuple #[.string T, .int .i64 0]) ∧ Below w.heap.size w w' := by
  subst hs
  obtain ⟨b1, b2, b3, b4, _⟩ := sound_bd hf
  by_cases h : sc = 0
  · subst h
    exact text_whole n N hn b3 b4 hf hN T hT w htab
  · exact text_part n N sc hn b3 b4 (by omega) (by omega) hf hN T hT w htab
end Go.Proofs.YtlmcjnekkhdmiaaDoor
