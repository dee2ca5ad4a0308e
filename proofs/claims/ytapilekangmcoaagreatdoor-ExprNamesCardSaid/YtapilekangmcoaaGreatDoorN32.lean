/- The arithmetic of the reference's first: how it reads a sign's bytes; it is the model's decode, with what may not stand struck out. -/
import Derived.Lib.DecodeN
set_option linter.unusedVariables false
set_option linter.unusedSimpArgs false
set_option maxHeartbeats 8000000
set_option maxRecDepth 100000
namespace Go.Proofs.YtapilekangmcoaaGreatDoor
def mayP (r : Nat) : Prop := r = 9 ∨ r = 10 ∨ r = 13 ∨ 32 ≤ r ∧ r ≤ 55295 ∨ 57344 ≤ r ∧ r ≤ 65533 ∨ 65536 ≤ r ∧ r ≤ 1114111
instance (r : Nat) : Decidable (mayP r) := by unfold mayP; infer_instance
/-- The bytes that follow: d of them, from place k on. -/
def contF (t : ByteArray) : Nat → Nat → Nat → Option Nat
 | 0, _, r => some r
 | d + 1, k, r => if (t.get! k).toNat < 128 ∨ 192 ≤ (t.get! k).toNat then none else contF t d (k + 1) (r * 64 + (t.get! k).toNat - 128)
def firstO (n least : Nat) : Option Nat → Nat × Nat
 | none => (0, 0)
 | some r => if r < least ∨ ¬ mayP r then (0, 0) else (r, n)
def firstL (t : ByteArray) (n r least : Nat) : Nat × Nat := if t.size < n then (0, 0) else firstO n least (contF t (n - 1) 1 r)
def firstV (t : ByteArray) : Nat × Nat :=
 if (t.get! 0).toNat < 128 then firstL t 1 (t.get! 0).toNat 0
 else if 192 ≤ (t.get! 0).toNat ∧ (t.get! 0).toNat < 224 then firstL t 2 ((t.get! 0).toNat - 192) 128
 else if 224 ≤ (t.get! 0).toNat ∧ (t.get! 0).toNat < 240 then firstL t 3 ((t.get! 0).toNat - 224) 2048
 else if 240 ≤ (t.get! 0).toNat ∧ (t.get! 0).toNat < 248 then firstL t 4 ((t.get! 0).toNat - 240) 65536
 else (0, 0)
def okD (d : Nat × Nat) : Nat × Nat := if (d.1 = 65533 ∧ d.2 = 1) ∨ ¬ mayP d.1 then (0, 0) else d
theorem okD_bad : okD (65533, 1) = (0, 0) := by decide
set_option maxHeartbeats 4000000 in
theorem first_2 (n b0 b1 b2 b3 : Nat) (h1 : b1 < 256) (hb : 192 ≤ b0 ∧ b0 < 224) (hn : 1 ≤ n) :
   okD (Lib.decodeN n b0 b1 b2 b3) = if n < 2 then (0, 0) else firstO 2 128 (if b1 < 128 ∨ 192 ≤ b1 then none else some ((b0 - 192) * 64 + b1 - 128)) := by
 have e : Lib.decodeN n b0 b1 b2 b3 = if 1 < n ∧ b1 / 64 = 2 then (if b0 % 32 * 64 + b1 % 64 ≥ 128 then (b0 % 32 * 64 + b1 % 64, 2) else (65533, 1)) else (65533, 1) := by
   unfold Lib.decodeN
   rw [if_neg (by omega)]
   by_cases h : 1 < n ∧ b1 / 64 = 2
   · rw [if_pos ⟨by omega, h⟩, if_pos h]
   · rw [if_neg (fun c => h c.2), if_neg (by omega), if_neg (by omega), if_neg h]
 rw [e]
 by_cases hn2 : n < 2
 · rw [if_neg (by omega), if_pos hn2]; exact okD_bad
 · rw [if_neg hn2]
   by_cases hc : b1 < 128 ∨ 192 ≤ b1
   · rw [if_neg (by omega), if_pos hc]; exact okD_bad
   · rw [if_pos (by omega), if_neg hc]
     have hv : (b0 - 192) * 64 + b1 - 128 = b0 % 32 * 64 + b1 % 64 := by omega
     rw [hv]
     generalize b0 % 32 * 64 + b1 % 64 = v
     unfold firstO
     simp only []
     by_cases h : v ≥ 128
     · rw [if_pos h]
       unfold okD
       by_cases hm : mayP v
       · rw [if_neg (by simp [hm]), if_neg (by simp [hm]; omega)]
       · rw [if_pos (.inr hm), if_pos (.inr hm)]
     · rw [if_neg h, if_pos (.inl (by omega))]; exact okD_bad
set_option maxHeartbeats 4000000 in
theorem first_3 (n b0 b1 b2 b3 : Nat) (h1 : b1 < 256) (h2 : b2 < 256) (hb : 224 ≤ b0 ∧ b0 < 240) (hn : 1 ≤ n) :
   okD (Lib.decodeN n b0 b1 b2 b3) = if n < 3 then (0, 0) else firstO 3 2048 (if b1 < 128 ∨ 192 ≤ b1 then none else if b2 < 128 ∨ 192 ≤ b2 then none else some (((b0 - 224) * 64 + b1 - 128) * 64 + b2 - 128)) := by
 have e : Lib.decodeN n b0 b1 b2 b3 = if (1 < n ∧ b1 / 64 = 2) ∧ (2 < n ∧ b2 / 64 = 2) then
   (if b0 % 16 * 4096 + b1 % 64 * 64 + b2 % 64 ≥ 2048 ∧ (b0 % 16 * 4096 + b1 % 64 * 64 + b2 % 64 < 55296 ∨ (57344 ≤ b0 % 16 * 4096 + b1 % 64 * 64 + b2 % 64 ∧ b0 % 16 * 4096 + b1 % 64 * 64 + b2 % 64 ≤ 1114111))
    then (b0 % 16 * 4096 + b1 % 64 * 64 + b2 % 64, 3) else (65533, 1)) else (65533, 1) := by
   unfold Lib.decodeN
   rw [if_neg (by omega), if_neg (by omega)]
   by_cases h : (1 < n ∧ b1 / 64 = 2) ∧ (2 < n ∧ b2 / 64 = 2)
   · rw [if_pos ⟨by omega, h⟩, if_pos h]
   · rw [if_neg (fun c => h c.2), if_neg (by omega), if_neg h]
 rw [e]
 by_cases hn2 : n < 3
 · rw [if_neg (by omega), if_pos hn2]; exact okD_bad
 · rw [if_neg hn2]
   by_cases hc : b1 < 128 ∨ 192 ≤ b1
   · rw [if_neg (by omega), if_pos hc]; exact okD_bad
   · rw [if_neg hc]
     by_cases hc2 : b2 < 128 ∨ 192 ≤ b2
     · rw [if_neg (by omega), if_pos hc2]; exact okD_bad
     · rw [if_pos (by omega), if_neg hc2]
       have hv : ((b0 - 224) * 64 + b1 - 128) * 64 + b2 - 128 = b0 % 16 * 4096 + b1 % 64 * 64 + b2 % 64 := by omega
       rw [hv]
       generalize b0 % 16 * 4096 + b1 % 64 * 64 + b2 % 64 = v
       unfold firstO
       simp only []
       by_cases h : v ≥ 2048 ∧ (v < 55296 ∨ (57344 ≤ v ∧ v ≤ 1114111))
       · rw [if_pos h]
         unfold okD
         by_cases hm : mayP v
         · rw [if_neg (by simp [hm]), if_neg (by simp [hm]; omega)]
         · rw [if_pos (.inr hm), if_pos (.inr hm)]
       · rw [if_neg h, if_pos (by unfold mayP; omega)]; exact okD_bad
set_option maxHeartbeats 4000000 in
theorem first_4 (n b0 b1 b2 b3 : Nat) (h1 : b1 < 256) (h2 : b2 < 256) (h3 : b3 < 256) (hb : 240 ≤ b0 ∧ b0 < 248) (hn : 1 ≤ n) :
   okD (Lib.decodeN n b0 b1 b2 b3) = if n < 4 then (0, 0) else firstO 4 65536 (if b1 < 128 ∨ 192 ≤ b1 then none else if b2 < 128 ∨ 192 ≤ b2 then none else if b3 < 128 ∨ 192 ≤ b3 then none else some ((((b0 - 240) * 64 + b1 - 128) * 64 + b2 - 128) * 64 + b3 - 128)) := by
 have e : Lib.decodeN n b0 b1 b2 b3 = if (1 < n ∧ b1 / 64 = 2) ∧ (2 < n ∧ b2 / 64 = 2) ∧ (3 < n ∧ b3 / 64 = 2) then
   (if b0 % 8 * 262144 + b1 % 64 * 4096 + b2 % 64 * 64 + b3 % 64 ≥ 65536 ∧ (b0 % 8 * 262144 + b1 % 64 * 4096 + b2 % 64 * 64 + b3 % 64 < 55296 ∨ (57344 ≤ b0 % 8 * 262144 + b1 % 64 * 4096 + b2 % 64 * 64 + b3 % 64 ∧ b0 % 8 * 262144 + b1 % 64 * 4096 + b2 % 64 * 64 + b3 % 64 ≤ 1114111))
    then (b0 % 8 * 262144 + b1 % 64 * 4096 + b2 % 64 * 64 + b3 % 64, 4) else (65533, 1)) else (65533, 1) := by
   unfold Lib.decodeN
   rw [if_neg (by omega), if_neg (by omega), if_neg (by omega)]
   by_cases h : (1 < n ∧ b1 / 64 = 2) ∧ (2 < n ∧ b2 / 64 = 2) ∧ (3 < n ∧ b3 / 64 = 2)
   · rw [if_pos ⟨by omega, h⟩, if_pos h]
   · rw [if_neg (fun c => h c.2), if_neg h]
 rw [e]
 by_cases hn2 : n < 4
 · rw [if_neg (by omega), if_pos hn2]; exact okD_bad
 · rw [if_neg hn2]
   by_cases hc : b1 < 128 ∨ 192 ≤ b1
   · rw [if_neg (by omega), if_pos hc]; exact okD_bad
   · rw [if_neg hc]
     by_cases hc2 : b2 < 128 ∨ 192 ≤ b2
     · rw [if_neg (by omega), if_pos hc2]; exact okD_bad
     · rw [if_neg hc2]
       by_cases hc3 : b3 < 128 ∨ 192 ≤ b3
       · rw [if_neg (by omega), if_pos hc3]; exact okD_bad
       · rw [if_pos (by omega), if_neg hc3]
         have hv : (((b0 - 240) * 64 + b1 - 128) * 64 + b2 - 128) * 64 + b3 - 128 = b0 % 8 * 262144 + b1 % 64 * 4096 + b2 % 64 * 64 + b3 % 64 := by omega
         rw [hv]
         generalize b0 % 8 * 262144 + b1 % 64 * 4096 + b2 % 64 * 64 + b3 % 64 = v
         unfold firstO
         simp only []
         by_cases h : v ≥ 65536 ∧ (v < 55296 ∨ (57344 ≤ v ∧ v ≤ 1114111))
         · rw [if_pos h]
           unfold okD
           by_cases hm : mayP v
           · rw [if_neg (by simp [hm]), if_neg (by simp [hm]; omega)]
           · rw [if_pos (.inr hm), if_pos (.inr hm)]
         · rw [if_neg h, if_pos (by unfold mayP; omega)]; exact okD_bad
theorem decodeN_low (n b0 b1 b2 b3 : Nat) (hb : b0 < 128) : Lib.decodeN n b0 b1 b2 b3 = (b0, 1) := by unfold Lib.decodeN; rw [if_pos hb]
theorem decodeN_bad (n b0 b1 b2 b3 : Nat) (h1 : ¬ b0 < 128) (h2 : ¬ (192 ≤ b0 ∧ b0 < 224)) (h3 : ¬ (224 ≤ b0 ∧ b0 < 240)) (h4 : ¬ (240 ≤ b0 ∧ b0 < 248)) (hb : b0 < 256) : Lib.decodeN n b0 b1 b2 b3 = (65533, 1) := by
 unfold Lib.decodeN
 rw [if_neg h1, if_neg (by omega), if_neg (by omega), if_neg (by omega)]
theorem cont_1 (t : ByteArray) (r : Nat) : contF t (2 - 1) 1 r = if (t.get! 1).toNat < 128 ∨ 192 ≤ (t.get! 1).toNat then none else some (r * 64 + (t.get! 1).toNat - 128) := by
 rw [show 2 - 1 = 0 + 1 from rfl, contF]; rfl
theorem cont_2 (t : ByteArray) (r : Nat) : contF t (3 - 1) 1 r = if (t.get! 1).toNat < 128 ∨ 192 ≤ (t.get! 1).toNat then none else if (t.get! 2).toNat < 128 ∨ 192 ≤ (t.get! 2).toNat then none else some ((r * 64 + (t.get! 1).toNat - 128) * 64 + (t.get! 2).toNat - 128) := by
 rw [show 3 - 1 = 0 + 1 + 1 from rfl, contF, contF]; rfl
theorem cont_3 (t : ByteArray) (r : Nat) : contF t (4 - 1) 1 r = if (t.get! 1).toNat < 128 ∨ 192 ≤ (t.get! 1).toNat then none else if (t.get! 2).toNat < 128 ∨ 192 ≤ (t.get! 2).toNat then none else if (t.get! 3).toNat < 128 ∨ 192 ≤ (t.get! 3).toNat then none else some (((r * 64 + (t.get! 1).toNat - 128) * 64 + (t.get! 2).toNat - 128) * 64 + (t.get! 3).toNat - 128) := by
 rw [show 4 - 1 = 0 + 1 + 1 + 1 from rfl, contF, contF, contF]; rfl
theorem firstV_eq (t : ByteArray) (ht : 0 < t.size) : firstV t = okD (Utf8.decode t 0) := by
 rw [Lib.decode_at]
 unfold firstV firstL
 rw [cont_1, cont_2, cont_3]
 simp only [Nat.zero_add, Nat.sub_zero]
 have hb0 := (t.get! 0).toNat_lt
 have hb1 := (t.get! 1).toNat_lt
 have hb2 := (t.get! 2).toNat_lt
 have hb3 := (t.get! 3).toNat_lt
 generalize (t.get! 0).toNat = b0 at hb0 ⊢
 generalize (t.get! 1).toNat = b1 at hb1 ⊢
 generalize (t.get! 2).toNat = b2 at hb2 ⊢
 generalize (t.get! 3).toNat = b3 at hb3 ⊢
 by_cases g1 : b0 < 128
 · rw [if_pos g1, decodeN_low _ _ _ _ _ g1, if_neg (by omega)]
   show firstO 1 0 (some b0) = _
   unfold firstO okD
   simp only []
   by_cases hm : mayP b0
   · rw [if_neg (by simp [hm]), if_neg (by simp [hm]; omega)]
   · rw [if_pos (.inr hm), if_pos (.inr hm)]
 · rw [if_neg g1]
   by_cases g2 : 192 ≤ b0 ∧ b0 < 224
   · rw [if_pos g2]; exact (first_2 _ _ _ _ _ hb1 g2 ht).symm
   · rw [if_neg g2]
     by_cases g3 : 224 ≤ b0 ∧ b0 < 240
     · rw [if_pos g3]; exact (first_3 _ _ _ _ _ hb1 hb2 g3 ht).symm
     · rw [if_neg g3]
       by_cases g4 : 240 ≤ b0 ∧ b0 < 248
       · rw [if_pos g4]; exact (first_4 _ _ _ _ _ hb1 hb2 hb3 g4 ht).symm
       · rw [if_neg g4, decodeN_bad _ _ _ _ _ g1 g2 g3 g4 hb0]; exact okD_bad.symm
end Go.Proofs.YtapilekangmcoaaGreatDoor
