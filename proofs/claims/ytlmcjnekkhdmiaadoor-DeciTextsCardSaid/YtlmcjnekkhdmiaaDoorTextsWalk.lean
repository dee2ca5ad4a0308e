/- The walk of DeciTexts. -/
import Derived.Test.YtlmcjnekkhdmiaaDoorParseEq
import Derived.Test.YtlmcjnekkhdmiaaDoorAwake
import Derived.Test.YtlmcjnekkhdmiaaDoorBulk
set_option linter.unusedVariables false
set_option linter.unusedSimpArgs false
namespace Go.Proofs.YtlmcjnekkhdmiaaDoor
open Go.RowKit
open Go.Lib hiding intOf
attribute [local go_sem high] run_dec_eql run_dec_neq

def lead (wh : ByteArray) : Prop := 1 < wh.size ∧ byteAt wh 0 = 48
theorem lead_ways {wh : ByteArray} (h : ¬ lead wh) : ¬ 1 < wh.size ∨ ∃ h1 : 1 < wh.size, ¬ (wh[0]'(by omega)).toNat = 48 := by
  by_cases h1 : 1 < wh.size
  · right
    refine ⟨h1, fun e => h ⟨h1, ?_⟩⟩
    rw [byteAt_eq wh 0 (by omega)]
    exact UInt8.toNat_inj.1 e
  · exact .inl h1

theorem reads (s : ByteArray) (m : Int) (hs : s.size < 140737488351233) : ∃ R : Res, (∀ w : World, w.cell? ⟨1, 0, none⟩ = some (.int .i64 m) → Calls Tryd.prog 6 #[.string s] w fun x w' => x = .returned (.tuple #[.agg #[.int .i64 R.n, .int .i64 R.s], .int .i64 R.e]) ∧ Below w.heap.size w w') ∧ (∀ w, Calls Tryd.prog 7 #[.string s] w fun x w' => x = .returned (.tuple #[.agg #[.int .i64 R.n, .int .i64 R.s], .int .i64 R.e]) ∧ Below w.heap.size w w') := by
  obtain ⟨r, wh, pa, pt, minus, dot, P⟩ := parts_ex s hs
  have C := P.cut
  by_cases good : (allDig wh.data.toList = true ∧ (dot = true → allDig pa.data.toList = true)) ∧ ¬ (dot = true ∧ pa.size = 0) ∧ wh.size ≠ 0 ∧ ¬ lead wh
  · obtain ⟨g1, g2, g3, g4⟩ := good
    have dw : digB wh = true := digB_iff.2 ⟨g3, g1.1⟩
    have dp : dot = false ∨ dot = true ∧ digB pa = true := by
      cases hd : dot with
      | false => exact .inl rfl
      | true => exact .inr ⟨rfl, digB_iff.2 ⟨fun h0 => g2 ⟨hd, h0⟩, g1.2 hd⟩⟩
    by_cases big : 6 < pt.size ∨ 12 < wh.size
    · refine ⟨⟨0, 0, 3⟩, fun w hm => ?_, fun w => ?_⟩
      · rcases lead_ways g4 with l1 | ⟨l1, l2⟩
        · have h6 : 6 < pt.size := by omega
          exact parse_Do C dw dp l1 h6 m w hm
        · by_cases h6 : 6 < pt.size
          · exact parse_Dt C dw dp l1 l2 h6 m w hm
          · exact parse_Et C dw dp l1 l2 (by omega) (by omega) m w hm
      · exact rparse_any (u := 0) ⟨by omega, P.m1, P.m0, P.w1, P.w2, P.w3, P.w4, C.s3, C.h4, fun h => absurd (P.all.2 g1) h, fun a b => absurd ⟨a, b⟩ g2, fun a => absurd a g3, fun a b => absurd ⟨a, b⟩ g4, fun _ _ _ _ _ => rfl, fun _ _ _ _ a b => absurd big (by omega)⟩ w
    · obtain ⟨t, ht⟩ := trim_sub pa.data.toList
      rw [C.h4] at ht
      have hpt : allDig pt.data.toList = true := by
        rcases dp with hd | ⟨_, hd⟩
        · have hpa := (P.w3 hd).2
          have h0 : pt.data.toList = [] := by rw [← C.h4, hpa]; rfl
          rw [h0]; rfl
        · have := (digB_iff.1 hd).2
          rw [ht] at this
          unfold allDig at this ⊢
          rw [List.all_append, Bool.and_eq_true] at this
          exact this.1
      have hall : allDig (wh ++ pt).data.toList = true := by
        rw [ByteArray.data_append, Array.toList_append]
        unfold allDig at g1 hpt ⊢
        rw [List.all_append, Bool.and_eq_true]
        exact ⟨g1.1, hpt⟩
      have hsz : (wh ++ pt).data.toList.length = (wh ++ pt).size := by simp
      obtain ⟨u, u1, u2, u3⟩ := digits_of (wh ++ pt).size (wh ++ pt).data.toList hsz hall
      have hsize : (wh ++ pt).size = wh.size + pt.size := ByteArray.size_append
      have hle : 10 ^ (wh ++ pt).size ≤ 10 ^ 18 := Nat.pow_le_pow_right (by decide) (by omega)
      have hu : Lib.parseUintB 64 (wh ++ pt).data.toList = .ok u := by
        unfold Lib.parseUintB
        rw [if_neg (by intro e; rw [e] at hsz; simp at hsz; omega)]
        exact uintM_of _ 0 u hall u1 (by omega)
      have h40 : (10 : Nat) ^ 18 < 10 ^ 40 := by decide
      refine ⟨decS pt.size (u : Int) minus, fun w hm => ?_, fun w => ?_⟩
      · rcases lead_ways g4 with l1 | ⟨l1, l2⟩
        · exact parse_Fo C dw dp l1 (by omega) (by omega) u hu (by omega) m w hm
        · exact parse_Ft C dw dp l1 l2 (by omega) (by omega) u hu (by omega) m w hm
      · exact rparse_any (u := u) ⟨by omega, P.m1, P.m0, P.w1, P.w2, P.w3, P.w4, C.s3, C.h4, fun h => absurd (P.all.2 g1) h, fun a b => absurd ⟨a, b⟩ g2, fun a => absurd a g3, fun a b => absurd ⟨a, b⟩ g4, fun _ _ _ _ h => absurd h big, fun _ _ _ _ _ _ => ⟨rfl, by omega, u2, fun i hi => ⟨(allDig_getD.1 hall) i (by omega), u3 i hi⟩⟩⟩ w
  · refine ⟨⟨0, 0, 5⟩, fun w hm => ?_, fun w => ?_⟩
    · cases dw : digB wh with
      | false => exact parse_A C dw m w hm
      | true =>
        by_cases hd : dot = true ∧ digB pa = false
        · exact parse_B C dw hd.1 hd.2 m w hm
        · have dp : dot = false ∨ dot = true ∧ digB pa = true := by
            cases hdt : dot with
            | false => exact .inl rfl
            | true =>
              cases hpa : digB pa with
              | true => exact .inr ⟨rfl, rfl⟩
              | false => exact absurd ⟨hdt, hpa⟩ hd
          by_cases hl : lead wh
          · refine parse_C C dw dp hl.1 ?_ m w hm
            have := hl.2
            rw [byteAt_eq wh 0 (by have := hl.1; omega)] at this
            rw [this]; rfl
          · exfalso
            have w0 := digB_iff.1 dw
            apply good
            refine ⟨⟨w0.2, fun hdt => ?_⟩, fun h => ?_, w0.1, hl⟩
            · rcases dp with h | ⟨_, h⟩
              · rw [hdt] at h; cases h
              · exact (digB_iff.1 h).2
            · rcases dp with h2 | ⟨_, h2⟩
              · rw [h.1] at h2; cases h2
              · exact (digB_iff.1 h2).1 h.2
    · refine rparse_any (u := 0) ⟨by omega, P.m1, P.m0, P.w1, P.w2, P.w3, P.w4, C.s3, C.h4, fun _ => rfl, fun _ _ => rfl, fun _ => rfl, fun _ _ => rfl, fun a b c d _ => absurd ⟨P.all.1 a, b, c, d⟩ good, fun a b c d _ _ => absurd ⟨P.all.1 a, b, c, d⟩ good⟩ w

theorem writes (n s : Int) (hn : I64 n) (hs : I64 s) : ∃ (T : ByteArray) (e : Int), (∀ w, Lib.TabIs Tryd.prog w "internal/strconv.uint64pow10" .u64 Lib.pow10Tab → Calls Tryd.prog 4 #[.agg #[.int .i64 n, .int .i64 s]] w fun x w' => x = .returned (.tuple #[.string T, .int .i64 e]) ∧ Below w.heap.size w w') ∧ (∀ w, Calls Tryd.prog 5 #[.agg #[.int .i64 n, .int .i64 s]] w fun x w' => x = .returned (.tuple #[.string T, .int .i64 e]) ∧ Below w.heap.size w w') := by
  by_cases hf : soundS n s = true
  · obtain ⟨b1, b2, b3, b4, _⟩ := sound_bd hf
    have hmg := mag_nn n
    refine ⟨_, 0, fun w ht => text_any n s (mag n).toNat s.toNat hn (by omega) hf (by omega) _ rfl w ht, fun w => ?_⟩
    have hs2 : s = (s.toNat : Int) := by omega
    have hf2 := hf
    rw [hs2] at hf2
    have := rtext_good n (mag n).toNat s.toNat hn (by omega) b3 b4 hf2 (by omega) _ rfl w
    rw [← hs2] at this
    exact this
  · exact ⟨_, 2, fun w _ => text_form n s hn hs hf w, fun w => rtext_form n s hn hs hf w⟩

set_option maxHeartbeats 2000000 in
set_option maxRecDepth 100000 in
theorem textslaw_any (m n s : Int) (t : ByteArray) (ht : t.size < 140737488351233) (hn : I64 n) (hs : I64 s) (w : World) (hm : w.cell? ⟨1, 0, none⟩ = some (.int .i64 m)) (hlt : 1 < w.heap.size) (htab : Lib.TabIs Tryd.prog w "internal/strconv.uint64pow10" .u64 Lib.pow10Tab) :
    Calls Tryd.prog 3 #[.agg #[.int .i64 n, .int .i64 s], .string t] w fun e w' => e = .returned (.bool true) ∧ Below w.heap.size w w' := by
  have HT := Lib.hid (Lib.tabBelow_of_tabIs htab)
  have HM : Hid (∀ w', Below w.heap.size w w' → w'.cell? ⟨1, 0, none⟩ = some (.int .i64 m)) := fun w' hb => ((bcell hb).1 _ _ hlt).trans hm
  obtain ⟨T, x, h1, h2⟩ := writes n s hn hs
  obtain ⟨R, h3, h4⟩ := reads t m ht
  have H1 := Lib.hid h1
  have H2 := Lib.hid h2
  have H3 := Lib.hid h3
  have H4 := Lib.hid h4
  have hb0 := Blk.new w 23 #[.int .i64 n, .int .i64 s]
  clear h1 h2 h3 h4 htab hm hlt ht hn hs
  go_enter Tryd.func3, Tryd.ntmps3
  go_wp2_with fail
  refine (H1.out _ (HT.out _ (by (repeat' first | (with_reducible first | exact .refl _ _ | assumption | apply balloc | apply Below.drew | apply bset | refine bstep ?_ ‹_› | refine bturn ?_ ‹_› ?_) | go_size)))).mono ?_
  rintro _ w1 ⟨rfl, hb1⟩
  replace hb0 := hb0.step hb1
  have c0 := hb0.cell 0
  have c1 := hb0.cell 1
  simp at c0 c1
  go_wp2_with fail
  refine (H2.out _).mono ?_
  rintro _ w2 ⟨rfl, hb2⟩
  clear c0 c1
  go_wp2_with fail
  refine (H3.out _ (HM.out _ (by (repeat' first | (with_reducible first | exact .refl _ _ | assumption | apply balloc | apply Below.drew | apply bset | refine bstep ?_ ‹_› | refine bturn ?_ ‹_› ?_) | go_size)))).mono ?_
  rintro _ w3 ⟨rfl, hb3⟩
  go_wp2_with fail
  refine (H4.out _).mono ?_
  rintro _ w4 ⟨rfl, hb4⟩
  have b5 := ((Blk.new w3 23 #[.int .i64 R.n, .int .i64 R.s]).step hb4).alloc (.cells #[.int .i64 R.n, .int .i64 R.s] 23)
  have b7 := Blk.new w4 23 #[.int .i64 R.n, .int .i64 R.s]
  go_wp2_with fail
  refine (awake_any m _ (HM.out _ (by (repeat' first | (with_reducible first | exact .refl _ _ | assumption | apply balloc | apply Below.drew | apply bset | refine bstep ?_ ‹_› | refine bturn ?_ ‹_› ?_) | go_size))) (HT.out _ (by (repeat' first | (with_reducible first | exact .refl _ _ | assumption | apply balloc | apply Below.drew | apply bset | refine bstep ?_ ‹_› | refine bturn ?_ ‹_› ?_) | go_size)))).mono ?_
  rintro _ w5 ⟨rfl, hb5⟩
  replace b5 := b5.step hb5
  replace b7 := b7.step hb5
  have x0 := b5.cell 0
  have x1 := b5.cell 1
  have y0 := b7.cell 0
  have y1 := b7.cell 1
  simp at x0 x1 y0 y1
  go_wp2
  go_ret
  exact ⟨by simp, by (repeat' first | (with_reducible first | exact .refl _ _ | assumption | apply balloc | apply Below.drew | apply bset | refine bstep ?_ ‹_› | refine bturn ?_ ‹_› ?_) | go_size)⟩
end Go.Proofs.YtlmcjnekkhdmiaaDoor
