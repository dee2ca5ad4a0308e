/- A text's signs, byte by byte, as the reference reads them: plainly. -/
import Derived.Test.YtapilekangmcoaaGreatDoorN32
import Derived.Test.YtapilekangmcoaaGreatDoorN4
set_option linter.unusedVariables false
set_option linter.unusedSimpArgs false
set_option maxHeartbeats 8000000
set_option maxRecDepth 100000
namespace Go.Proofs.YtapilekangmcoaaGreatDoor
open Go.RowKit
theorem mayB_nat (r : Nat) : mayB (r : Int) = decide (mayP r) := by
 unfold mayB mayP
 exact decide_eq_decide.2 (by omega)
/-- The byte at a place, 0 behind the end. -/
theorem get_in (t : ByteArray) (k : Nat) (h : k < t.size) : t.get! k = t[k]'h := by
 obtain ⟨d⟩ := t
 exact getElem!_pos d k h
theorem get_out (t : ByteArray) (k : Nat) (h : ¬ k < t.size) : t.get! k = default := by
 obtain ⟨d⟩ := t
 exact getElem!_neg d k h
/-- What the suffix of a text begins with is what the text holds at that place. -/
theorem get_suffix (s : ByteArray) (p i : Nat) : (s.extract p s.size).get! i = s.get! (p + i) := by
 by_cases h : p + i < s.size
 · have h2 : i < (s.extract p s.size).size := by rw [ByteArray.size_extract]; omega
   rw [get_in _ _ h2, get_in _ _ h, ByteArray.getElem_extract]
 · have h2 : ¬ i < (s.extract p s.size).size := by rw [ByteArray.size_extract]; omega
   rw [get_out _ _ h2, get_out _ _ h]
theorem decode_suffix (s : ByteArray) (p : Nat) (hp : p < s.size) : Utf8.decode (s.extract p s.size) 0 = Utf8.decode s p := by
 rw [Lib.decode_at, Lib.decode_at, get_suffix, get_suffix, get_suffix, get_suffix]
 simp only [Nat.add_zero, Nat.zero_add, Nat.sub_zero, ByteArray.size_extract, Nat.min_self]
theorem badAt_eq (s : ByteArray) (p : Nat) (hp : p < s.size) : badAt s p = decide (((Utf8.decode s p).1 = 65533 ∧ (Utf8.decode s p).2 = 1) ∨ ¬ mayP (Utf8.decode s p).1) := by
 have hz : ¬ (s.extract p s.size).size = 0 := by rw [ByteArray.size_extract]; omega
 unfold badAt Lib.decodeGo
 rw [if_neg hz, decode_suffix s p hp, mayB_nat]
 by_cases h1 : (Utf8.decode s p).1 = 65533 <;> by_cases h2 : (Utf8.decode s p).2 = 1 <;> by_cases h3 : mayP (Utf8.decode s p).1 <;> simp [h1, h2, h3]
/-- How the reference's first answers at a place. -/
theorem first_at (s : ByteArray) (p : Nat) (hp : p < s.size) : firstV (s.extract p s.size) = if badAt s p then (0, 0) else Utf8.decode s p := by
 rw [firstV_eq _ (by rw [ByteArray.size_extract]; omega), decode_suffix s p hp, badAt_eq s p hp]
 unfold okD
 by_cases h : ((Utf8.decode s p).1 = 65533 ∧ (Utf8.decode s p).2 = 1) ∨ ¬ mayP (Utf8.decode s p).1
 · rw [if_pos h, if_pos (decide_eq_true h)]
 · rw [if_neg h, if_neg (by simpa using h)]
end Go.Proofs.YtapilekangmcoaaGreatDoor
