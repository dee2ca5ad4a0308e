/- The reference's Div at every two numbers: it is the program's. -/
import Derived.Test.YteljkkfnnmikkaaDoorRefDiv
import Derived.Test.YteljkkfnnmikkaaDoorRefDecH
import Derived.Test.YteljkkfnnmikkaaDoorDivW
namespace Go.Proofs.YteljkkfnnmikkaaDoor
open Go.RowKit

theorem rsize_lit (n : Int) (A : Nat) (h0 : -999999999999 ≤ n) (h1 : n ≤ 999999999999) (hA : mag n = (A : Int)) (w : World) :
    Calls Tryd.prog 33 #[.int .i64 n] w fun e w' => e = .returned (.int .i64 (A : Int)) ∧ w = w' := by
  refine (rsize_any n (by omega) (by omega) w).mono ?_
  rintro e w' ⟨rfl, rfl⟩
  exact ⟨by rw [hA], rfl⟩

theorem rdiv_any (n s n2 s2 : Int) (hn : I64 n) (hs : I64 s) (hn2 : I64 n2) (hs2 : I64 s2) (w : World) :
    Calls Tryd.prog 15 #[.agg #[.int .i64 n, .int .i64 s], .agg #[.int .i64 n2, .int .i64 s2]] w fun e w' => e = .returned (.tuple #[.agg #[.int .i64 (divS n s n2 s2).n, .int .i64 (divS n s n2 s2).s], .int .i64 (divS n s n2 s2).e]) ∧ Below w.heap.size w w' := by
  have hSa := fun W => rsound_any n s hn.1 hn.2 hs.1 hs.2 W
  have hSb := fun W => rsound_any n2 s2 hn2.1 hn2.2 hs2.1 hs2.2 W
  by_cases h1 : soundS n s = true
  · rw [h1] at hSa
    by_cases h2 : soundS n2 s2 = true
    · rw [h2] at hSb
      obtain ⟨b1, b2, b3, b4, _⟩ := sound_bd h1
      obtain ⟨d1, d2, d3, d4, _⟩ := sound_bd h2
      unfold divS
      rw [h1, h2, if_pos (show (true && true) = true from rfl)]
      by_cases hz : n2 = 0
      · subst hz
        rw [if_pos rfl]
        exact rdiv_zero n s s2 (Lib.hid hSa) (Lib.hid hSb) w
      · rw [if_neg hz]
        obtain ⟨A, hA⟩ := mag_ex n
        obtain ⟨B, hB⟩ := mag_ex n2
        have hA1 := mag_lt b3 b4 hA
        have hB1 := mag_lt d3 d4 hB
        have hB0 : 0 < B := by unfold mag at hB; split at hB <;> omega
        obtain ⟨K, hK⟩ : ∃ K : Nat, 6 - s + s2 = (K : Int) := ⟨(6 - s + s2).toNat, by omega⟩
        obtain ⟨q, hq⟩ : ∃ q : Nat, 20 + s - s2 = (q : Int) + 7 := ⟨(13 + s - s2).toNat, by omega⟩
        have hq19 : q ≤ 19 := by omega
        have hq1 : 2 ≤ q + 1 := by omega
        have hqK : K + (q + 1) = 20 := by omega
        rw [hA, hB, hK, Int.toNat_natCast, Int.toNat_natCast, Int.toNat_natCast]
        have hE : even10 (stick (A * 10 ^ 20) B) (q + 1) = evenQ (A * 10 ^ K) B := by
          rw [← stick_even hB0 hq1, Nat.mul_assoc, ← Nat.pow_add, hqK]
        have hX40 : stick (A * 10 ^ 20) B < 10 ^ 40 := by
          have h1 : A * 10 ^ 20 / B ≤ A * 10 ^ 20 := Nat.div_le_self _ _
          have h2 : A * 10 ^ 20 ≤ 999999999999 * 10 ^ 20 := Nat.mul_le_mul_right _ hA1
          unfold stick
          split <;> omega
        refine rdiv_main n s n2 s2 (Lib.hid hSa) (Lib.hid hSb) A B (A * 10 ^ 20) (A * 10 ^ 20 / B) 20 q (decide (n < 0)) (decide (n2 < 0)) _ rfl rfl hz hB0 hB1 hA1 (Lib.hid rfl) (Lib.hid rfl) rfl (IntWalk.i64_in _ (by omega)) (by rw [hq]; exact IntWalk.i64_in _ (by omega)) (Lib.hid (fun W => rsize_lit n A b3 b4 hA W)) (Lib.hid (fun W => rsize_lit n2 B d3 d4 hB W)) (Lib.hid (fun g W hR => ?_)) w
        have := rdec_high g 0 60 (stick (A * 10 ^ 20) B) q (decide (n < 0) != decide (n2 < 0)) W hX40 hq19 hR (by omega)
        rw [hE] at this
        exact this
    · have h2' : soundS n2 s2 = false := by simpa using h2
      rw [h2'] at hSb
      unfold divS
      rw [if_neg (by rw [h2', Bool.and_false]; decide)]
      exact rdiv_form2 n s n2 s2 (Lib.hid hSa) (Lib.hid hSb) w
  · have h1' : soundS n s = false := by simpa using h1
    rw [h1'] at hSa
    unfold divS
    rw [if_neg (by rw [h1', Bool.false_and]; decide)]
    exact rdiv_form1 n s n2 s2 (Lib.hid hSa) w
end Go.Proofs.YteljkkfnnmikkaaDoor
