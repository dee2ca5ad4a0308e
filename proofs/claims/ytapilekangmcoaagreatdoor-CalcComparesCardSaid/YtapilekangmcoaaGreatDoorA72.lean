/- The reference's Compare gives what the program's Compare gives. -/
import Derived.Test.YtapilekangmcoaaGreatDoorA71
set_option linter.unusedVariables false
set_option linter.unusedSimpArgs false
set_option maxHeartbeats 8000000
set_option maxRecDepth 100000
namespace Go.Proofs.YtapilekangmcoaaGreatDoor.Dq
open Go.RowKit
theorem cmp_lt {a b : Int} (h : a < b) : cmpS a b = -1 := by unfold cmpS; rw [if_pos h]
theorem cmp_gt {a b : Int} (h : b < a) : cmpS a b = 1 := by unfold cmpS; rw [if_neg (by omega), if_pos h]
theorem cmp_eq {a b : Int} (h : a = b) : cmpS a b = 0 := by unfold cmpS; rw [if_neg (by omega), if_neg (by omega)]
theorem rcmp_any (n s n2 s2 : Int) (hn : I64 n) (hs : I64 s) (hn2 : I64 n2) (hs2 : I64 s2) (w : World) :
   Calls Tryz.prog 69 #[.agg #[.int .i64 n, .int .i64 s], .agg #[.int .i64 n2, .int .i64 s2]] w fun e w' => e = .returned (.tuple #[.int .i64 (cmpD n s n2 s2).1, .int .i64 (cmpD n s n2 s2).2]) ∧ Below w.heap.size w w' := by
 by_cases h : (soundS n s && soundS n2 s2) = true
 · have hA : cmpD n s n2 s2 = (cmpS (unitsS n s) (unitsS n2 s2), 0) := by unfold cmpD; rw [if_pos h]
   rw [hA]
   rw [Bool.and_eq_true] at h
   obtain ⟨h1, h2⟩ := h
   obtain ⟨N, t, A, P⟩ := parts_of h1
   obtain ⟨N2, t2, A2, P2⟩ := parts_of h2
   have r1 := P.row
   have r2 := P2.row
   have q1 := P.bd
   have q2 := P2.bd
   have e60 : (10 : Nat) ^ 60 = 1000000000000000000000000000000000000000000000000000000000000 := by decide
   have b1 : N * 10 ^ t < 10 ^ 60 := by rw [r1]; omega
   have b2 : N2 * 10 ^ t2 < 10 ^ 60 := by rw [r2]; omega
   show Calls _ _ _ _ fun e w' => e = .returned (.tuple #[.int .i64 (cmpS (unitsS n s) (unitsS n2 s2)), .int .i64 0]) ∧ Below w.heap.size w w'
   by_cases h0 : n < 0
   · rw [P.neg h0]
     have hz := P.nz h0
     by_cases h02 : n2 < 0
     · rw [P2.neg h02]
       rcases Nat.lt_trichotomy A A2 with hc | hc | hc
       · rw [cmp_gt (by omega)]
         exact rcmp_nlt n s n2 s2 N t N2 t2 hn hs hn2 hs2 h1 h2 P.mag P.sc P2.mag P2.sc P.t0 P.t1 P2.t0 P2.t1 b1 b2 (by rw [r1, r2]; simp; omega) (by rw [r1, r2]; simp; omega) h0 h02 w
       · rw [cmp_eq (by omega)]
         exact rcmp_neq n s n2 s2 N t N2 t2 hn hs hn2 hs2 h1 h2 P.mag P.sc P2.mag P2.sc P.t0 P.t1 P2.t0 P2.t1 b1 b2 (by rw [r1, r2]; simp; omega) (by rw [r1, r2]; simp; omega) h0 h02 w
       · rw [cmp_lt (by omega)]
         exact rcmp_ngt n s n2 s2 N t N2 t2 hn hs hn2 hs2 h1 h2 P.mag P.sc P2.mag P2.sc P.t0 P.t1 P2.t0 P2.t1 b1 b2 (by rw [r1, r2]; simp; omega) (by rw [r1, r2]; simp; omega) h0 h02 w
     · rw [P2.pos (by omega), cmp_lt (by omega)]
       exact rcmp_np n s n2 s2 hn hs hn2 hs2 h1 h2 h0 (by omega) w
   · rw [P.pos (by omega)]
     by_cases h02 : n2 < 0
     · have hz := P2.nz h02
       rw [P2.neg h02, cmp_gt (by omega)]
       exact rcmp_pn n s n2 s2 hn hs hn2 hs2 h1 h2 (by omega) h02 w
     · rw [P2.pos (by omega)]
       rcases Nat.lt_trichotomy A A2 with hc | hc | hc
       · rw [cmp_lt (by omega)]
         exact rcmp_plt n s n2 s2 N t N2 t2 hn hs hn2 hs2 h1 h2 P.mag P.sc P2.mag P2.sc P.t0 P.t1 P2.t0 P2.t1 b1 b2 (by rw [r1, r2]; simp; omega) (by rw [r1, r2]; simp; omega) (by omega) (by omega) w
       · rw [cmp_eq (by omega)]
         exact rcmp_peq n s n2 s2 N t N2 t2 hn hs hn2 hs2 h1 h2 P.mag P.sc P2.mag P2.sc P.t0 P.t1 P2.t0 P2.t1 b1 b2 (by rw [r1, r2]; simp; omega) (by rw [r1, r2]; simp; omega) (by omega) (by omega) w
       · rw [cmp_gt (by omega)]
         exact rcmp_pgt n s n2 s2 N t N2 t2 hn hs hn2 hs2 h1 h2 P.mag P.sc P2.mag P2.sc P.t0 P.t1 P2.t0 P2.t1 b1 b2 (by rw [r1, r2]; simp; omega) (by rw [r1, r2]; simp; omega) (by omega) (by omega) w
 · have hA : cmpD n s n2 s2 = (0, 2) := by unfold cmpD; rw [if_neg h]
   rw [hA]
   exact rcmp_form n s n2 s2 hn hs hn2 hs2 h w
end Go.Proofs.YtapilekangmcoaaGreatDoor.Dq
