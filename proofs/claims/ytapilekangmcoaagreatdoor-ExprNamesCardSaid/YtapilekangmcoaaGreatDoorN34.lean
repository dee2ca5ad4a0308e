/- The walk of the reference's good (layer 4). -/
import Derived.Deep.DeepCutAuto
import Derived.Test.YtapilekangmcoaaGreatDoorN33
set_option linter.unusedVariables false
set_option linter.unusedSimpArgs false
set_option maxHeartbeats 8000000
set_option maxRecDepth 100000
namespace Go.Proofs.YtapilekangmcoaaGreatDoor
open Go.RowKit
theorem contF_bad {t : ByteArray} {d k v : Nat} (h : (t.get! k).toNat < 128 ∨ 192 ≤ (t.get! k).toNat) : contF t (d + 1) k v = none := by rw [contF, if_pos h]
theorem contF_go {t : ByteArray} {d k v : Nat} (h : ¬ ((t.get! k).toNat < 128 ∨ 192 ≤ (t.get! k).toNat)) : contF t (d + 1) k v = contF t d (k + 1) (v * 64 + (t.get! k).toNat - 128) := by rw [contF, if_neg h]
theorem pow64 {k : Nat} (h : k ≤ 4) : 64 ^ (k - 1) ≤ 262144 := Nat.le_trans (Nat.pow_le_pow_right (by omega) (show k - 1 ≤ 3 by omega)) (by decide)
set_option maxHeartbeats 16000000 in
theorem rgood4_any (s : ByteArray) (hs : s.size ≤ 4000000) (b : Bool) (hb : goodS s = b) (w : World) : Calls Tryz.prog 45 #[.string s] w fun e w' => e = .returned (.bool b) ∧ w = w' := by
 unfold goodS at hb
 have HB := Lib.hid hb
 obtain ⟨R, hR⟩ : ∃ R, badF s s.size 0 = R := ⟨_, rfl⟩
 have HR := Lib.hid hR
 clear hR hb
 go_enter Tryz.func45, Tryz.ntmps45
 go_wp2_with fail
 go_loop [3, 4, 5, 6, 7, 8] (fun i _ _ _ _ _ => ∃ (pos f : Nat), i = .int .i64 (pos : Int) ∧ Hid (badF s f pos = R) ∧ s.size ≤ pos + f ∧ pos ≤ 8000000) (fun i _ _ _ _ _ => s.size - (intOf i).toNat)
 case atStart => exact ⟨0, s.size, rfl, HR, by omega, by omega⟩
 case round =>
   obtain ⟨p, f, rfl, HF, hle, hpm⟩ := hrel
   by_cases hp : p < s.size
   · have hpi : (p : Int) < (s.size : Int) := by omega
     obtain ⟨f', rfl⟩ : ∃ f', f = f' + 1 := ⟨f - 1, by omega⟩
     obtain ⟨t, ht⟩ : ∃ t, s.extract p s.size = t := ⟨_, rfl⟩
     have hts : t.size = s.size - p := by rw [← ht, ByteArray.size_extract, Nat.min_self]
     have hget : ∀ i, t.get! i = s.get! (p + i) := fun i => by rw [← ht]; exact get_suffix s p i
     have hfa := first_at s p hp
     rw [ht] at hfa
     have hf := HF.out
     rw [badF, if_pos hp] at hf
     -- what becomes of it
     have HBAD : Hid (firstV t = (0, 0) → false = b) := Lib.hid fun h0 => by
       cases hbd : badAt s p with
       | true =>
         rw [hbd, if_pos rfl] at hf
         rw [← HB.out, HR.out, ← hf]
         simp
       | false =>
         rw [hbd, if_neg (by simp), h0] at hfa
         have := width_pos s p hp
         rw [← hfa] at this
         exact absurd this (by simp)
     have HGO : Hid (∀ v c, 0 < c → firstV t = (v, c) → badF s f' (p + c) = R) := Lib.hid fun v c hc h0 => by
       cases hbd : badAt s p with
       | true =>
         rw [hbd, if_pos rfl, h0] at hfa
         injection hfa with h1 h2
         omega
       | false =>
         rw [hbd, if_neg (by simp), h0] at hfa
         rw [hbd, if_neg (by simp), ← hfa] at hf
         exact hf
     obtain ⟨n0, h0⟩ : ∃ n0, (t.get! 0).toNat = n0 := ⟨_, rfl⟩
     have hv : (((s[p]'hp).toNat : Nat) : Int) = (n0 : Int) := by rw [← h0, hget 0, Nat.add_zero, get_in s p hp]
     have h256 : n0 < 256 := by rw [← h0]; exact (t.get! 0).toNat_lt
     have HV : Hid (firstV t = if n0 < 128 then firstL t 1 n0 0 else if 192 ≤ n0 ∧ n0 < 224 then firstL t 2 (n0 - 192) 128 else if 224 ≤ n0 ∧ n0 < 240 then firstL t 3 (n0 - 224) 2048 else if 240 ≤ n0 ∧ n0 < 248 then firstL t 4 (n0 - 240) 65536 else (0, 0)) := Lib.hid (by unfold firstV; rw [h0])
     have HG := Lib.hid hget
     clear hf hfa ht hget h0 HF
     go_upto_region 4 with fail
     go_cut [5, 6, 7] (fun n r l wx => n = .int .i64 1 ∧ r = .int .i64 (n0 : Int) ∧ l = .int .i64 0 ∧ wx = w)
     case first =>
       go_wp2_with fail
       go_meet
       case rel => exact ⟨rfl, rfl, rfl, rfl⟩
     case rest =>
       obtain ⟨rfl, rfl, rfl, hw⟩ := hcut
       rw [hw]
       clear hw
       go_step
       go_step
       go_cut [5, 6, 7] (fun n r l wx => ∃ (c r0 lc : Nat), n = .int .i64 (c : Int) ∧ r = .int .i64 (r0 : Int) ∧ l = .int .i64 (lc : Int) ∧ 1 ≤ c ∧ c ≤ 4 ∧ r0 < 128 ∧ lc ≤ 65536 ∧ wx = w ∧ Hid (firstV t = firstL t c r0 lc))
       case first =>
         by_cases g1 : n0 < 128
         · have k1 : (n0 : Int) < 128 := by omega
           have HL : Hid (firstV t = firstL t 1 n0 0) := Lib.hid (by rw [HV.out, if_pos g1])
           have HB0 := Lib.hid (show n0 < 128 by omega)
           go_wp2_with fail
           go_meet
           case rel => exact ⟨1, n0, 0, rfl, rfl, rfl, by omega, by omega, HB0.out, by omega, rfl, HL⟩
         have k1 : ¬ (n0 : Int) < 128 := by omega
         by_cases g5 : n0 < 192
         · have k2 : ¬ (192 : Int) ≤ (n0 : Int) := by omega
           have k3 : ¬ (224 : Int) ≤ (n0 : Int) := by omega
           have k4 : ¬ (240 : Int) ≤ (n0 : Int) := by omega
           have HX := Lib.hid (HBAD.out (by rw [HV.out]; rw [if_neg (by omega), if_neg (by omega), if_neg (by omega), if_neg (by omega)]))
           go_wp2_with fail
           go_returns
           exact ⟨by rw [← HX.out]; rfl, rfl⟩
         have k2 : (192 : Int) ≤ (n0 : Int) := by omega
         by_cases g2 : n0 < 224
         · have k3 : (n0 : Int) < 224 := by omega
           obtain ⟨r0, hr0⟩ : ∃ r0, n0 - 192 = r0 := ⟨_, rfl⟩
           have qs : (n0 : Int) - 192 = (r0 : Int) := by omega
           have qw : IntKind.i64.wrap (r0 : Int) = (r0 : Int) := IntWalk.i64_in _ (by omega)
           have HL : Hid (firstV t = firstL t 2 r0 128) := Lib.hid (by rw [HV.out]; rw [if_neg (by omega), if_pos (by omega), hr0])
           have HB0 := Lib.hid (show r0 < 128 by omega)
           clear hr0
           go_wp2_with fail
           go_meet
           case rel => exact ⟨2, r0, 128, rfl, rfl, rfl, by omega, by omega, HB0.out, by omega, rfl, HL⟩
         have k3 : ¬ (n0 : Int) < 224 := by omega
         have k3' : (224 : Int) ≤ (n0 : Int) := by omega
         by_cases g3 : n0 < 240
         · have k4 : (n0 : Int) < 240 := by omega
           obtain ⟨r0, hr0⟩ : ∃ r0, n0 - 224 = r0 := ⟨_, rfl⟩
           have qs : (n0 : Int) - 224 = (r0 : Int) := by omega
           have qw : IntKind.i64.wrap (r0 : Int) = (r0 : Int) := IntWalk.i64_in _ (by omega)
           have HL : Hid (firstV t = firstL t 3 r0 2048) := Lib.hid (by rw [HV.out]; rw [if_neg (by omega), if_neg (by omega), if_pos (by omega), hr0])
           have HB0 := Lib.hid (show r0 < 128 by omega)
           clear hr0
           go_wp2_with fail
           go_meet
           case rel => exact ⟨3, r0, 2048, rfl, rfl, rfl, by omega, by omega, HB0.out, by omega, rfl, HL⟩
         have k4 : ¬ (n0 : Int) < 240 := by omega
         have k4' : (240 : Int) ≤ (n0 : Int) := by omega
         by_cases g4 : n0 < 248
         · have k5 : (n0 : Int) < 248 := by omega
           obtain ⟨r0, hr0⟩ : ∃ r0, n0 - 240 = r0 := ⟨_, rfl⟩
           have qs : (n0 : Int) - 240 = (r0 : Int) := by omega
           have qw : IntKind.i64.wrap (r0 : Int) = (r0 : Int) := IntWalk.i64_in _ (by omega)
           have HL : Hid (firstV t = firstL t 4 r0 65536) := Lib.hid (by rw [HV.out]; rw [if_neg (by omega), if_neg (by omega), if_neg (by omega), if_pos (by omega), hr0])
           have HB0 := Lib.hid (show r0 < 128 by omega)
           clear hr0
           go_wp2_with fail
           go_meet
           case rel => exact ⟨4, r0, 65536, rfl, rfl, rfl, by omega, by omega, HB0.out, by omega, rfl, HL⟩
         have k5 : ¬ (n0 : Int) < 248 := by omega
         have HX := Lib.hid (HBAD.out (by rw [HV.out]; rw [if_neg (by omega), if_neg (by omega), if_neg (by omega), if_neg (by omega)]))
         go_wp2_with fail
         go_returns
         exact ⟨by rw [← HX.out]; rfl, rfl⟩
       case rest =>
         obtain ⟨c, r0, lc, rfl, rfl, rfl, hc1, hc4, hr0, hlc, hw, HL⟩ := hcut
         rw [hw]
         clear hw HV hv
         go_wp2_with fail
         go_loop [8, 6] (fun i r => ∃ (k v : Nat), i = .int .i64 (k : Int) ∧ r = .int .i64 (v : Int) ∧ 1 ≤ k ∧ k ≤ c ∧ k ≤ t.size ∧ v < 128 * 64 ^ (k - 1) ∧ Hid ((t.size < c → firstV t = (0, 0)) ∧ (¬ t.size < c → firstO c lc (contF t (c - k) k v) = firstV t))) (fun i _ => 4 - (intOf i).toNat)
         case atStart => exact ⟨1, r0, rfl, rfl, by omega, hc1, by omega, by simp; omega, Lib.hid ⟨fun h => by rw [HL.out]; unfold firstL; rw [if_pos h], fun h => by rw [HL.out]; unfold firstL; rw [if_neg h]⟩⟩
         case round =>
           obtain ⟨k, v, rfl, rfl, hk1, hkc, hkt, hv2, HK⟩ := hrel
           by_cases hlt : k < c
           · have hki : (k : Int) < (c : Int) := by omega
             obtain ⟨j, hj⟩ : ∃ j, p + k = j := ⟨_, rfl⟩
             have w0 : (p : Int) + (k : Int) = (j : Int) := by omega
             have w1 : IntKind.i64.wrap (j : Int) = (j : Int) := IntWalk.i64_in _ (by omega)
             by_cases hin : k < t.size
             · have hjs : j < s.size := by omega
               have hji : ¬ (s.size : Int) ≤ (j : Int) := by omega
               obtain ⟨y, hy⟩ : ∃ y, (s.get! j).toNat = y := ⟨_, rfl⟩
               have hyv : (((s[j]'hjs).toNat : Nat) : Int) = (y : Int) := by rw [← hy, get_in s j hjs]
               have hy256 : y < 256 := by rw [← hy]; exact (s.get! j).toNat_lt
               have hty : (t.get! k).toNat = y := by rw [HG.out, hj]; exact hy
               clear hy
               have hcd : c - k = (c - (k + 1)) + 1 := by omega
               by_cases c0 : y < 128 ∨ 192 ≤ y
               · have HX := Lib.hid (HBAD.out (by
                   by_cases h : t.size < c
                   · exact HK.out.1 h
                   · rw [← HK.out.2 h, hcd, contF_bad (by rw [hty]; exact c0)]
                     rfl))
                 by_cases c1 : y < 128
                 · have k1 : (y : Int) < 128 := by omega
                   clear c0 c1 hty hcd
                   go_wp2_with fail
                   go_returns
                   exact ⟨by rw [← HX.out]; rfl, rfl⟩
                 · have k1 : ¬ (y : Int) < 128 := by omega
                   have k2 : (192 : Int) ≤ (y : Int) := by omega
                   clear c0 c1 hty hcd
                   go_wp2_with fail
                   go_returns
                   exact ⟨by rw [← HX.out]; rfl, rfl⟩
               · have k1 : ¬ (y : Int) < 128 := by omega
                 have k2 : ¬ (192 : Int) ≤ (y : Int) := by omega
                 obtain ⟨v1, hv1⟩ : ∃ v1, v * 64 + y - 128 = v1 := ⟨_, rfl⟩
                 have hp : 64 ^ (k + 1 - 1) = 64 * 64 ^ (k - 1) := by rw [show k + 1 - 1 = (k - 1) + 1 by omega, Nat.pow_succ, Nat.mul_comm]
                 have hp4 := pow64 (k := k) (by omega)
                 have hvb : v1 < 128 * 64 ^ (k + 1 - 1) := by rw [hp]; omega
                 have HK2 : Hid ((t.size < c → firstV t = (0, 0)) ∧ (¬ t.size < c → firstO c lc (contF t (c - (k + 1)) (k + 1) v1) = firstV t)) := Lib.hid ⟨HK.out.1, fun h => by
                   rw [← HK.out.2 h, hcd, contF_go (by rw [hty]; exact c0), hty, hv1]⟩
                 have u1 : IntKind.i64.wrap ((v : Int) * 64) = (v : Int) * 64 := IntWalk.i64_in _ (by omega)
                 have u2 : IntKind.i64.wrap ((v : Int) * 64 + (y : Int)) = (v : Int) * 64 + (y : Int) := IntWalk.i64_in _ (by omega)
                 have u3 : IntKind.i64.wrap ((v : Int) * 64 + (y : Int) - 128) = (v1 : Int) := by
                   rw [show (v : Int) * 64 + (y : Int) - 128 = (v1 : Int) by omega]; exact IntWalk.i64_in _ (by omega)
                 have u4 : IntKind.i64.wrap ((k : Int) + 1) = ((k + 1 : Nat) : Int) := by rw [IntWalk.i64_in _ (by omega)]; omega
                 have HF := Lib.hid (show 1 ≤ k + 1 ∧ k + 1 ≤ c ∧ k + 1 ≤ t.size ∧ v1 < 128 * 64 ^ (k + 1 - 1) ∧ k < 4 from ⟨by omega, by omega, by omega, hvb, by omega⟩)
                 clear hv1 hp hp4 hvb c0 hty hcd hv2
                 go_wp2_with fail
                 go_round
                 case rel => exact ⟨k + 1, v1, by go_num, by go_num, HF.out.1, HF.out.2.1, HF.out.2.2.1, HF.out.2.2.2.1, HK2⟩
                 case measure => have := HF.out; simp [intOf]; omega
             · have hji : (s.size : Int) ≤ (j : Int) := by omega
               have HX := Lib.hid (HBAD.out (HK.out.1 (by omega)))
               clear hin
               go_wp2_with fail
               go_returns
               exact ⟨by rw [← HX.out]; rfl, rfl⟩
           · obtain rfl : k = c := by omega
             have hx : firstV t = firstO k lc (some v) := by
               rw [← HK.out.2 (by omega), Nat.sub_self]
               rfl
             have hp4 := pow64 (k := k) (by omega)
             have hvl : v < 128 * 262144 := by omega
             obtain ⟨D, hD⟩ : ∃ D, decide (v < lc ∨ ¬ mayP v) = D := ⟨_, rfl⟩
             have HD := Lib.hid hD
             have HXB : Hid (D = true → false = b) := Lib.hid fun h => HBAD.out (by
               rw [hx]
               unfold firstO
               exact if_pos (of_decide_eq_true (hD.trans h)))
             have HXG : Hid (D = false → badF s f' (p + k) = R) := Lib.hid fun h => HGO.out v k (by omega) (by
               rw [hx]
               unfold firstO
               exact if_neg (of_decide_eq_false (hD.trans h)))
             clear hx hD HK hv2 hp4
             go_upto_region 19 with fail
             go_cut [6, 124] (fun r x wx => r = .int .i64 (v : Int) ∧ x = .bool D ∧ wx = w)
             case first =>
               by_cases d1 : (v : Int) < (lc : Int)
               · have HY : Hid (decide (v < lc ∨ ¬ mayP v) = true) := Lib.hid (decide_eq_true (by unfold mayP; omega))
                 go_wp2_with fail
                 go_meet
                 case rel =>
                   refine ⟨?_, ?_, ?_⟩
                   · first | rfl | (congr 1; omega)
                   · rw [← HD.out, HY.out]
                     first | done | rfl | (congr 1; simp; omega)
                   · first | rfl | trivial
               · by_cases d2 : (v : Int) = 9
                 · have HY : Hid (decide (v < lc ∨ ¬ mayP v) = false) := Lib.hid (decide_eq_false (by unfold mayP; omega))
                   go_wp2_with fail
                   go_meet
                   case rel =>
                     refine ⟨?_, ?_, ?_⟩
                     · first | rfl | (congr 1; omega)
                     · rw [← HD.out, HY.out]
                       first | done | rfl | (congr 1; simp; omega)
                     · first | rfl | trivial
                 · by_cases d3 : (v : Int) = 10
                   · have HY : Hid (decide (v < lc ∨ ¬ mayP v) = false) := Lib.hid (decide_eq_false (by unfold mayP; omega))
                     go_wp2_with fail
                     go_meet
                     case rel =>
                       refine ⟨?_, ?_, ?_⟩
                       · first | rfl | (congr 1; omega)
                       · rw [← HD.out, HY.out]
                         first | done | rfl | (congr 1; simp; omega)
                       · first | rfl | trivial
                   · by_cases d4 : (v : Int) = 13
                     · have HY : Hid (decide (v < lc ∨ ¬ mayP v) = false) := Lib.hid (decide_eq_false (by unfold mayP; omega))
                       go_wp2_with fail
                       go_meet
                       case rel =>
                         refine ⟨?_, ?_, ?_⟩
                         · first | rfl | (congr 1; omega)
                         · rw [← HD.out, HY.out]
                           first | done | rfl | (congr 1; simp; omega)
                         · first | rfl | trivial
                     · by_cases d5 : (32 : Int) ≤ (v : Int)
                       · by_cases d6 : (v : Int) ≤ 55295
                         · have HY : Hid (decide (v < lc ∨ ¬ mayP v) = false) := Lib.hid (decide_eq_false (by unfold mayP; omega))
                           go_wp2_with fail
                           go_meet
                           case rel =>
                             refine ⟨?_, ?_, ?_⟩
                             · first | rfl | (congr 1; omega)
                             · rw [← HD.out, HY.out]
                               first | done | rfl | (congr 1; simp; omega)
                             · first | rfl | trivial
                         · by_cases d7 : (57344 : Int) ≤ (v : Int)
                           · by_cases d8 : (v : Int) ≤ 65533
                             · have HY : Hid (decide (v < lc ∨ ¬ mayP v) = false) := Lib.hid (decide_eq_false (by unfold mayP; omega))
                               go_wp2_with fail
                               go_meet
                               case rel =>
                                 refine ⟨?_, ?_, ?_⟩
                                 · first | rfl | (congr 1; omega)
                                 · rw [← HD.out, HY.out]
                                   first | done | rfl | (congr 1; simp; omega)
                                 · first | rfl | trivial
                             · by_cases d9 : (65536 : Int) ≤ (v : Int)
                               · by_cases d10 : (v : Int) ≤ 1114111
                                 · have HY : Hid (decide (v < lc ∨ ¬ mayP v) = false) := Lib.hid (decide_eq_false (by unfold mayP; omega))
                                   go_wp2_with fail
                                   go_meet
                                   case rel =>
                                     refine ⟨?_, ?_, ?_⟩
                                     · first | rfl | (congr 1; omega)
                                     · rw [← HD.out, HY.out]
                                       first | done | rfl | (congr 1; simp; omega)
                                     · first | rfl | trivial
                                 · have HY : Hid (decide (v < lc ∨ ¬ mayP v) = true) := Lib.hid (decide_eq_true (by unfold mayP; omega))
                                   go_wp2_with fail
                                   go_meet
                                   case rel =>
                                     refine ⟨?_, ?_, ?_⟩
                                     · first | rfl | (congr 1; omega)
                                     · rw [← HD.out, HY.out]
                                       first | done | rfl | (congr 1; simp; omega)
                                     · first | rfl | trivial
                               · have HY : Hid (decide (v < lc ∨ ¬ mayP v) = true) := Lib.hid (decide_eq_true (by unfold mayP; omega))
                                 go_wp2_with fail
                                 go_meet
                                 case rel =>
                                   refine ⟨?_, ?_, ?_⟩
                                   · first | rfl | (congr 1; omega)
                                   · rw [← HD.out, HY.out]
                                     first | done | rfl | (congr 1; simp; omega)
                                   · first | rfl | trivial
                           · have e9 : ¬ (65536 : Int) ≤ (v : Int) := by omega
                             have HY : Hid (decide (v < lc ∨ ¬ mayP v) = true) := Lib.hid (decide_eq_true (by unfold mayP; omega))
                             go_wp2_with fail
                             go_meet
                             case rel =>
                               refine ⟨?_, ?_, ?_⟩
                               · first | rfl | (congr 1; omega)
                               · rw [← HD.out, HY.out]
                                 first | done | rfl | (congr 1; simp; omega)
                               · first | rfl | trivial
                       · have e7 : ¬ (57344 : Int) ≤ (v : Int) := by omega
                         have e9 : ¬ (65536 : Int) ≤ (v : Int) := by omega
                         have HY : Hid (decide (v < lc ∨ ¬ mayP v) = true) := Lib.hid (decide_eq_true (by unfold mayP; omega))
                         go_wp2_with fail
                         go_meet
                         case rel =>
                           refine ⟨?_, ?_, ?_⟩
                           · first | rfl | (congr 1; omega)
                           · rw [← HD.out, HY.out]
                             first | done | rfl | (congr 1; simp; omega)
                           · first | rfl | trivial
             case rest =>
               obtain ⟨rfl, rfl, hw⟩ := hcut
               rw [hw]
               clear hw
               cases D with
               | true =>
                 have HX := Lib.hid (HXB.out rfl)
                 go_wp2_with fail
                 go_returns
                 exact ⟨by rw [← HX.out]; rfl, rfl⟩
               | false =>
                 have HX := Lib.hid (HXG.out rfl)
                 have u4 : IntKind.i64.wrap ((p : Int) + (k : Int)) = ((p + k : Nat) : Int) := by rw [IntWalk.i64_in _ (by omega)]; omega
                 have HF := Lib.hid (show s.size ≤ (p + k) + f' ∧ p + k ≤ 8000000 ∧ 1 ≤ k from ⟨by omega, by omega, hk1⟩)
                 go_wp2_with fail
                 go_round
                 case rel => exact ⟨p + k, f', by go_num, HX, HF.out.1, HF.out.2.1⟩
                 case measure => have := HF.out; simp [intOf]; omega
   · have hf := HF.out
     rw [badF_end s f p hp] at hf
     have Hf : Hid (true = b) := Lib.hid (by rw [← HB.out, HR.out, ← hf]; simp)
     clear hf
     go_wp2
     go_ret
     exact ⟨by rw [← Hf.out]; rfl, rfl⟩
end Go.Proofs.YtapilekangmcoaaGreatDoor
