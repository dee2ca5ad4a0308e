/- The law DeciLaws at every three numbers and every whole factor. -/
import Derived.Test.YteljkkfnnmikkaaDoorLawsWalk
namespace Go.Proofs.YteljkkfnnmikkaaDoor
open Go.RowKit

theorem dec_err (k : Nat) (n : Int) (b : Bool) : (decS k n b).e = 0 ∨ (decS k n b).e = 3 := by
  unfold decS
  split
  · exact .inr rfl
  · exact .inl rfl
theorem mul_err {n s n2 s2 : Int} (h1 : soundS n s = true) (h2 : soundS n2 s2 = true) : (mulS n s n2 s2).e = 0 ∨ (mulS n s n2 s2).e = 3 := by
  unfold mulS
  rw [h1, h2, if_pos (show (true && true) = true from rfl)]
  split
  · exact .inr rfl
  · exact dec_err _ _ _
theorem add_sounds {n s n2 s2 : Int} (h : (addS n s n2 s2).e = 0) : soundS n s = true ∧ soundS n2 s2 = true := by
  by_cases hb : (soundS n s && soundS n2 s2) = true
  · rwa [Bool.and_eq_true] at hb
  · exfalso
    unfold addS at h
    rw [if_neg hb] at h
    cases h
theorem i64_sounds {n s : Int} (h : soundS n s = true) : I64 n ∧ I64 s := by
  obtain ⟨b1, b2, b3, b4, _⟩ := sound_bd h
  unfold I64
  omega
theorem i64_dec (k : Nat) (n : Int) (b : Bool) (h : 0 ≤ n) : I64 (decS k n b).n ∧ I64 (decS k n b).s ∨ 100 < k := by
  by_cases hk : 100 < k
  · exact .inr hk
  · left
    have := short_bd k n h
    unfold decS
    split
    · exact ⟨⟨by decide, by decide⟩, ⟨by decide, by decide⟩⟩
    · rename_i hb
      rw [big_def] at hb
      unfold I64
      simp only
      split <;> omega

theorem laws_any (m n s n2 s2 n3 s3 k : Int) (hn : I64 n) (hs : I64 s) (hn2 : I64 n2) (hs2 : I64 s2) (hn3 : I64 n3) (hs3 : I64 s3) (k1 : -32768 ≤ k) (k2 : k ≤ 32767) (w : World) (hm : w.cell? ⟨3, 0, none⟩ = some (.int .i64 m)) (hlt : 3 < w.heap.size) (htab : Lib.TabIs Tryd.prog w "internal/strconv.uint64pow10" .u64 Lib.pow10Tab) :
    Calls Tryd.prog 8 #[.agg #[.int .i64 n, .int .i64 s], .agg #[.int .i64 n2, .int .i64 s2], .agg #[.int .i64 n3, .int .i64 s3], .int .i16 k] w fun e w' => e = .returned (.bool true) ∧ Below w.heap.size w w' := by
  have HT := Lib.tabBelow_of_tabIs htab
  have HW := Lib.hid (fun W (hb : Below w.heap.size w W) => awake_any m W (((bcell hb).1 _ _ hlt).trans hm) (HT W hb))
  have hx2 := fun W => add_any n2 s2 n s hn2 hs2 hn hs W
  rw [addS_comm] at hx2
  have hp2 := fun W => mul_any n2 s2 n s hn2 hs2 hn hs W
  rw [mulS_comm] at hp2
  have HX1 := Lib.hid (fun W => add_any n s n2 s2 hn hs hn2 hs2 W)
  have HX2 := Lib.hid hx2
  have HP1 := Lib.hid (fun W => mul_any n s n2 s2 hn hs hn2 hs2 W)
  have HP2 := Lib.hid hp2
  by_cases hx : (addS n s n2 s2).e = 0
  · obtain ⟨sa, sb⟩ := add_sounds hx
    have HZ := Lib.hid (fun W => add_any n3 s3 n2 s2 hn3 hs3 hn2 hs2 W)
    have hC := fun W => compare_any n s n3 s3 hn hs hn3 hs3 W
    have sk := sound_whole k1 k2
    have ik := i64_sounds sk
    have hS := fun W => rsound_any k 0 ik.1.1 ik.1.2 ik.2.1 ik.2.2 W
    rw [sk] at hS
    have HS := Lib.hid hS
    have HT' := Lib.hid (fun W => mul_any n s k 0 hn hs ik.1 ik.2 W)
    have hBack : ¬ k = 0 → (mulS n s k 0).e = 0 → ∀ W, Calls Tryd.prog 14 #[.agg #[.int .i64 (mulS n s k 0).n, .int .i64 (mulS n s k 0).s], .agg #[.int .i64 k, .int .i64 0]] W fun e w' => e = .returned (.tuple #[.agg #[.int .i64 n, .int .i64 s], .int .i64 0]) ∧ Below W.heap.size W w' := by
      intro hk ht W
      obtain ⟨q1, q2⟩ := back_whole sa k1 k2 hk _ rfl ht
      have i := i64_sounds q1
      have := div_any (mulS n s k 0).n (mulS n s k 0).s k 0 i.1 i.2 ik.1 ik.2 W
      rw [q2] at this
      exact this
    by_cases hz : (addS n3 s3 n2 s2).e = 0
    · obtain ⟨c1, c2⟩ := cmp_sums hx hz
      obtain ⟨sc, _⟩ := add_sounds hz
      rw [c2] at hC
      have HC := Lib.hid hC
      have key : ∀ {n s n2 s2 : Int}, (addS n s n2 s2).e = 0 → I64 (addS n s n2 s2).n ∧ I64 (addS n s n2 s2).s := by
        intro n s n2 s2 h
        obtain ⟨a1, a2⟩ := add_sounds h
        unfold addS
        rw [a1, a2, if_pos (show (true && true) = true from rfl)]
        exact (i64_dec 6 _ _ (mag_nn _)).resolve_right (by decide)
      have ix := key hx
      have iz := key hz
      have hCx := fun W => compare_any _ _ _ _ ix.1 ix.2 iz.1 iz.2 W
      rw [c1, c2] at hCx
      have HCx := Lib.hid hCx
      by_cases hk : k = 0
      · exact laws_sum_zero n s n2 s2 n3 s3 k w _ _ _ ⟨0, 0, 0⟩ ⟨0, 0, 0⟩ _ HW HX1 HX2 HP1 HP2 hx HZ HC hz HCx hk
      · by_cases ht : (mulS n s k 0).e = 0
        · exact laws_sum_back n s n2 s2 n3 s3 k w _ _ _ _ ⟨0, 0, 0⟩ _ HW HX1 HX2 HP1 HP2 hx HZ HC hz HCx k1 k2 hk HS HT' ht (Lib.hid (hBack hk ht))
        · exact laws_sum_far n s n2 s2 n3 s3 k w _ _ _ _ ⟨0, 0, 0⟩ _ HW HX1 HX2 HP1 HP2 hx HZ HC hz HCx k1 k2 hk HS HT' ((mul_err sa sk).resolve_left ht)
    · have hz' : ((addS n3 s3 n2 s2).e == 0) = false := by simpa using hz
      have HC := Lib.hid hC
      by_cases hk : k = 0
      · exact laws_nosum_zero n s n2 s2 n3 s3 k w _ _ _ ⟨0, 0, 0⟩ ⟨0, 0, 0⟩ _ HW HX1 HX2 HP1 HP2 _ hx HZ HC hz' hk
      · by_cases ht : (mulS n s k 0).e = 0
        · exact laws_nosum_back n s n2 s2 n3 s3 k w _ _ _ _ ⟨0, 0, 0⟩ _ HW HX1 HX2 HP1 HP2 _ hx HZ HC hz' k1 k2 hk HS HT' ht (Lib.hid (hBack hk ht))
        · exact laws_nosum_far n s n2 s2 n3 s3 k w _ _ _ _ ⟨0, 0, 0⟩ _ HW HX1 HX2 HP1 HP2 _ hx HZ HC hz' k1 k2 hk HS HT' ((mul_err sa sk).resolve_left ht)
  · have hx' : ((addS n s n2 s2).e == 0) = false := by simpa using hx
    exact laws_none n s n2 s2 n3 s3 k w _ _ ⟨0, 0, 0⟩ ⟨0, 0, 0⟩ ⟨0, 0, 0⟩ 0 HW HX1 HX2 HP1 HP2 hx'
end Go.Proofs.YteljkkfnnmikkaaDoor
