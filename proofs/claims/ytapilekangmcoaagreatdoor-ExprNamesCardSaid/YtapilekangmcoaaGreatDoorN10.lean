/- The walks of package deci: powers of ten, the shortest form, numbers made. The walks of package deci: Make, Sound, all, units, Neg, size. The walks of package deci: all, Neg, size, Compare, Add. The walks of package deci: Compare, Add. The walks of the reference of package deci: size, Make, Sound. The walks of package days: Leap, length, first, Day, Date. The walks of package days: Day, Date. The walks of the reference of package days: years, Length, Day, Date. Plain laws of sums: what a sum is in units, and that it is in its shortest form. Plain laws of rounded quotients: a long number by a number, and the same by long division digit by digit. No program in sight. Plain laws of products, and of a quotient of a product by a whole factor. No program in sight. -/
import Derived.Deep.LoopGhost
import Derived.Test.YtapilekangmcoaaGreatDoorN1
set_option linter.unusedVariables false
set_option linter.unusedSimpArgs false
set_option maxHeartbeats 8000000
set_option maxRecDepth 100000
namespace Go.Proofs.YtapilekangmcoaaGreatDoor
open Go.RowKit
set_option maxHeartbeats 1000000 in
theorem short_any (n s : Int) (h0 : 0 ≤ n) (h1 : n ≤ 18446744073709551615) (h2 : 0 ≤ s) (h3 : s ≤ 100) (w : World) :
   Calls Tryz.prog 161 #[.agg #[.int .u64 n, .int .i64 s]] w fun e w' => e = .returned (.agg #[.int .u64 (short s.toNat n).1, .int .i64 (short s.toNat n).2]) ∧ Below w.heap.size w w' := by
 go_enter Tryz.func161, Tryz.ntmps161
 go_wp2
 go_loopg [] s.toNat (fun k wr => ∃ m : Int, 0 ≤ m ∧ m ≤ n ∧ k ≤ s.toNat ∧ Blk wr w.heap.size 152 #[.int .u64 m, .int .i64 k] ∧ Blk wr (w.heap.size + 1) 152 #[.int .u64 0, .int .i64 0] ∧ Below w.heap.size w wr ∧ short s.toNat n = short k m)
 case atStart => exact ⟨n, h0, Int.le_refl _, Nat.le_refl _, by rw [Int.toNat_of_nonneg h2]; exact (Blk.new _ _ _).alloc _, Blk.new' _ _ _ (by simp), by (repeat' first | (with_reducible first | exact .refl _ _ | assumption | apply balloc | apply Below.drew | apply bset | refine bstep ?_ ‹_› | refine bturn ?_ ‹_› ?_) | go_size), rfl⟩
 case round =>
   obtain ⟨m, hm0, hm1, hk, hb0, hb1, hbl, hs⟩ := hrel
   have HS := Lib.hid hs
   clear hs
   have hl0 := hb0.lt
   have c0 := hb0.cell 0
   have c1 := hb0.cell 1
   simp at c0 c1
   have z0 := hb0.frozen 0
   have z1 := hb0.frozen 1
   by_cases hz : gk = 0
   · subst hz
     go_wp2_with (refine wpList_store_blk hb1 rfl _ _ _ (by rfl) _ (by rfl) (by rfl) (by repeat first | with_reducible first | exact hb1 | apply Blk.alloc | apply Blk.drew | refine Blk.far ?_ (by simp <;> omega) _ | refine Blk.turn ?_ ‹_› (by omega)) (by rfl) (by kernel_rfl) (by simp [Value.oneCell']) ?_; intro wt hb1n ht)
     refine ret_blk rfl hb1n rfl Tryz.underlying152 rfl (by kernel_rfl) rfl ?_
     exact ⟨by rw [HS.out]; rfl, bturn hbl ht (by omega)⟩
   · by_cases hd : m % 10 = 0
     · go_wp2_with (refine wpList_store_blk hb1 rfl _ _ _ (by rfl) _ (by rfl) (by rfl) (by repeat first | with_reducible first | exact hb1 | apply Blk.alloc | apply Blk.drew | refine Blk.far ?_ (by simp <;> omega) _ | refine Blk.turn ?_ ‹_› (by omega)) (by rfl) (by kernel_rfl) (by simp [Value.oneCell']) ?_; intro wt hb1n ht)
       go_roundg (gk - 1)
       case measure => omega
       case rel =>
         refine ⟨m / 10, by omega, by omega, by omega, ?_, ?_, ?_, ?_⟩
         · have := (hb0.set_ 0 (.int .u64 (m / 10))).set_ 1 (.int .i64 ((gk : Int) - 1))
           rw [show (((gk - 1 : Nat) : Int)) = (gk : Int) - 1 from by omega]
           exact this
         · exact (hb1.far (by simp) _).far (by simp) _
         · exact bset (bset hbl (Nat.le_refl _) _) (Nat.le_refl _) _
         · rw [HS.out]
           obtain ⟨j, rfl⟩ : ∃ j, gk = j + 1 := ⟨gk - 1, by omega⟩
           exact short_go hd
     · go_wp2_with (refine wpList_store_blk hb1 rfl _ _ _ (by rfl) _ (by rfl) (by rfl) (by repeat first | with_reducible first | exact hb1 | apply Blk.alloc | apply Blk.drew | refine Blk.far ?_ (by simp <;> omega) _ | refine Blk.turn ?_ ‹_› (by omega)) (by rfl) (by kernel_rfl) (by simp [Value.oneCell']) ?_; intro wt hb1n ht)
       refine ret_blk rfl hb1n rfl Tryz.underlying152 rfl (by kernel_rfl) rfl ?_
       exact ⟨by rw [HS.out, short_stop (.inr hd)], bturn hbl ht (by omega)⟩
set_option maxHeartbeats 1000000 in
/-- (form).dec: as a number, below 0 or not. -/
theorem dec_any (n s : Int) (b : Bool) (h0 : 0 ≤ n) (h1 : n ≤ 18446744073709551615) (h2 : 0 ≤ s) (h3 : s ≤ 100) (w : World) :
   Calls Tryz.prog 124 #[.agg #[.int .u64 n, .int .i64 s], .bool b] w fun e w' => e = .returned (.tuple #[.agg #[.int .i64 (decS s.toNat n b).n, .int .i64 (decS s.toNat n b).s], .int .i64 (decS s.toNat n b).e]) ∧ Below w.heap.size w w' := by
 have hbd := short_bd s.toNat n h0
 have hs := short_any n s h0 h1 h2 h3
 have HD : Hid (∀ q : Int × Int, short s.toNat n = q → decS s.toNat n b = if 999999999999 < q.1 then ⟨0, 0, 3⟩ else ⟨if b then -q.1 else q.1, q.2, 0⟩) := fun q hq => by unfold decS; rw [hq]; rfl
 generalize hq : short s.toNat n = q at *
 obtain ⟨m, t⟩ := q
 have HD' := HD.out _ rfl
 simp only at HD' hs
 have HS := Lib.hid hs
 clear HD hs hq
 simp only at hbd
 have hb0 := (Blk.new w 152 #[.int .u64 n, .int .i64 s]).alloc (.cells #[.int .i64 0, .int .i64 0] 23)
 have hb1 := Blk.new' (w.alloc (.cells #[.int .u64 n, .int .i64 s] 152)) 23 #[.int .i64 0, .int .i64 0] (n := w.heap.size + 1) (by simp)
 by_cases hbig : 999999999999 < m
 · rw [if_pos hbig] at HD'; replace HD' := Lib.hid HD'
   go_enter Tryz.func124, Tryz.ntmps124
   go_wp2_with fail
   refine (HS.out _).mono ?_
   rintro e w1 ⟨rfl, hb⟩
   replace hb0 := hb0.step hb
   replace hb1 := hb1.step hb
   go_wp2_with (first | (refine wpList_store_blk hb0 rfl _ _ _ (by rfl) _ (by rfl) (by rfl) (by repeat first | with_reducible first | exact hb0 | apply Blk.alloc | apply Blk.drew | refine Blk.far ?_ (by simp <;> omega) _ | refine Blk.turn ?_ ‹_› (by omega)) (by rfl) (by kernel_rfl) (by simp [Value.oneCell']) ?_; intro wt hb0n ht; have c0 := hb0n.cell 0; simp at c0) | (refine wpList_store_blk hb1 rfl _ _ _ (by rfl) _ (by rfl) (by rfl) (by repeat first | with_reducible first | exact hb1 | apply Blk.alloc | apply Blk.drew | refine Blk.far ?_ (by simp <;> omega) _ | refine Blk.turn ?_ ‹_› (by omega)) (by rfl) (by kernel_rfl) (by simp [Value.oneCell']) ?_; intro wt hb1n ht))
   refine ret_blk2 rfl hb1n rfl Tryz.underlying23 rfl (by kernel_rfl) rfl ?_
   exact ⟨by rw [HD'.out]; rfl, by (repeat' first | (with_reducible first | exact .refl _ _ | assumption | apply balloc | apply Below.drew | apply bset | refine bstep ?_ ‹_› | refine bturn ?_ ‹_› ?_) | go_size)⟩
 · rw [if_neg hbig] at HD'; replace HD' := Lib.hid HD'
   cases b
   all_goals
     go_enter Tryz.func124, Tryz.ntmps124
     go_wp2_with fail
     refine (HS.out _).mono ?_
     rintro e w1 ⟨rfl, hb⟩
     replace hb0 := hb0.step hb
     replace hb1 := hb1.step hb
     go_wp2_with (first | (refine wpList_store_blk hb0 rfl _ _ _ (by rfl) _ (by rfl) (by rfl) (by repeat first | with_reducible first | exact hb0 | apply Blk.alloc | apply Blk.drew | refine Blk.far ?_ (by simp <;> omega) _ | refine Blk.turn ?_ ‹_› (by omega)) (by rfl) (by kernel_rfl) (by simp [Value.oneCell']) ?_; intro wt hb0n ht; have c0 := hb0n.cell 0; have c1 := hb0n.cell 1; simp at c0 c1) | (refine wpList_store_blk hb1 rfl _ _ _ (by rfl) _ (by rfl) (by rfl) (by repeat first | with_reducible first | exact hb1 | apply Blk.alloc | apply Blk.drew | refine Blk.far ?_ (by simp <;> omega) _ | refine Blk.turn ?_ ‹_› (by omega)) (by rfl) (by kernel_rfl) (by simp [Value.oneCell']) ?_; intro wt hb1n ht))
     refine ret_blk2 rfl hb1n rfl Tryz.underlying23 rfl (by kernel_rfl) rfl ?_
     exact ⟨by rw [HD'.out]; rfl, by (repeat' first | (with_reducible first | exact .refl _ _ | assumption | apply balloc | apply Below.drew | apply bset | refine bstep ?_ ‹_› | refine bturn ?_ ‹_› ?_) | go_size)⟩
end Go.Proofs.YtapilekangmcoaaGreatDoor
namespace Go.Proofs.YtapilekangmcoaaGreatDoor
open Go.RowKit
theorem make_bad {n s : Int} (h : s < 0 ∨ 6 < s ∨ 999999999999 < n ∨ n < -999999999999) : makeS n s = ⟨0, 0, 3⟩ := by unfold makeS; rw [big_def, if_pos h]
theorem make_ok {n s : Int} (h : 0 ≤ s ∧ s ≤ 6 ∧ -999999999999 ≤ n ∧ n ≤ 999999999999) : makeS n s = decS s.toNat (mag n) (decide (n < 0)) := by unfold makeS; rw [big_def, if_neg (by omega)]
set_option maxHeartbeats 1000000 in
theorem make_any (n s : Int) (hn0 : -9223372036854775808 ≤ n) (hn1 : n ≤ 9223372036854775807) (hs0 : -9223372036854775808 ≤ s) (hs1 : s ≤ 9223372036854775807) (w : World) :
   Calls Tryz.prog 82 #[.int .i64 n, .int .i64 s] w fun e w' => e = .returned (.tuple #[.agg #[.int .i64 (makeS n s).n, .int .i64 (makeS n s).s], .int .i64 (makeS n s).e]) ∧ Below w.heap.size w w' := by
 have hb1 := Blk.new w 23 #[.int .i64 0, .int .i64 0]
 by_cases hbad : s < 0 ∨ 6 < s ∨ 999999999999 < n ∨ n < -999999999999
 · have HM := Lib.hid (make_bad hbad)
   by_cases g1 : s < 0
   · clear hbad
     go_enter Tryz.func82, Tryz.ntmps82
     go_wp2
     refine ret_blk2 rfl hb1 rfl Tryz.underlying23 rfl (by kernel_rfl) rfl ?_
     exact ⟨by rw [HM.out]; rfl, by (repeat' first | (with_reducible first | exact .refl _ _ | assumption | apply balloc | apply Below.drew | apply bset | refine bstep ?_ ‹_› | refine bturn ?_ ‹_› ?_) | go_size)⟩
   by_cases g2 : 6 < s
   · clear hbad
     go_enter Tryz.func82, Tryz.ntmps82
     go_wp2
     refine ret_blk2 rfl hb1 rfl Tryz.underlying23 rfl (by kernel_rfl) rfl ?_
     exact ⟨by rw [HM.out]; rfl, by (repeat' first | (with_reducible first | exact .refl _ _ | assumption | apply balloc | apply Below.drew | apply bset | refine bstep ?_ ‹_› | refine bturn ?_ ‹_› ?_) | go_size)⟩
   by_cases g3 : 999999999999 < n
   · clear hbad
     go_enter Tryz.func82, Tryz.ntmps82
     go_wp2
     refine ret_blk2 rfl hb1 rfl Tryz.underlying23 rfl (by kernel_rfl) rfl ?_
     exact ⟨by rw [HM.out]; rfl, by (repeat' first | (with_reducible first | exact .refl _ _ | assumption | apply balloc | apply Below.drew | apply bset | refine bstep ?_ ‹_› | refine bturn ?_ ‹_› ?_) | go_size)⟩
   have g4 : n < -999999999999 := by omega
   clear hbad
   go_enter Tryz.func82, Tryz.ntmps82
   go_wp2
   refine ret_blk2 rfl hb1 rfl Tryz.underlying23 rfl (by kernel_rfl) rfl ?_
   exact ⟨by rw [HM.out]; rfl, by (repeat' first | (with_reducible first | exact .refl _ _ | assumption | apply balloc | apply Below.drew | apply bset | refine bstep ?_ ‹_› | refine bturn ?_ ‹_› ?_) | go_size)⟩
 · have g : 0 ≤ s ∧ s ≤ 6 ∧ -999999999999 ≤ n ∧ n ≤ 999999999999 := by omega
   have HM := Lib.hid (make_ok g)
   obtain ⟨g1, g2, g3, g4⟩ := g
   clear hbad hn0 hn1 hs0 hs1
   by_cases hneg : n < 0
   · have HM2 : mag n = -n := by unfold mag; rw [if_pos hneg]
     replace HM2 := Lib.hid HM2
     have HD : decide (n < 0) = true := by simpa using hneg
     replace HD := Lib.hid HD
     go_enter Tryz.func82, Tryz.ntmps82
     go_wp2_with fail
     refine (dec_any (-n) s true (by omega) (by omega) (by omega) (by omega) _).mono ?_
     rintro e w1 ⟨rfl, hb⟩
     replace hb1 := hb1.step hb
     go_wp2_with (refine wpList_store_blk hb1 rfl _ _ _ (by rfl) _ (by rfl) (by rfl) (by repeat first | with_reducible first | exact hb1 | apply Blk.alloc | apply Blk.drew | refine Blk.far ?_ (by simp <;> omega) _ | refine Blk.turn ?_ ‹_› (by omega)) (by rfl) (by kernel_rfl) (by simp [Value.oneCell']) ?_; intro wt hb1n ht)
     refine ret_blk2 rfl hb1n rfl Tryz.underlying23 rfl (by kernel_rfl) rfl ?_
     exact ⟨by rw [HM.out, HM2.out, HD.out]; rfl, by (repeat' first | (with_reducible first | exact .refl _ _ | assumption | apply balloc | apply Below.drew | apply bset | refine bstep ?_ ‹_› | refine bturn ?_ ‹_› ?_) | go_size)⟩
   · have HM2 : mag n = n := by unfold mag; rw [if_neg hneg]
     replace HM2 := Lib.hid HM2
     have HD : decide (n < 0) = false := by simpa using hneg
     replace HD := Lib.hid HD
     go_enter Tryz.func82, Tryz.ntmps82
     go_wp2_with fail
     refine (dec_any n s false (by omega) (by omega) (by omega) (by omega) _).mono ?_
     rintro e w1 ⟨rfl, hb⟩
     replace hb1 := hb1.step hb
     go_wp2_with (refine wpList_store_blk hb1 rfl _ _ _ (by rfl) _ (by rfl) (by rfl) (by repeat first | with_reducible first | exact hb1 | apply Blk.alloc | apply Blk.drew | refine Blk.far ?_ (by simp <;> omega) _ | refine Blk.turn ?_ ‹_› (by omega)) (by rfl) (by kernel_rfl) (by simp [Value.oneCell']) ?_; intro wt hb1n ht)
     refine ret_blk2 rfl hb1n rfl Tryz.underlying23 rfl (by kernel_rfl) rfl ?_
     exact ⟨by rw [HM.out, HM2.out, HD.out]; rfl, by (repeat' first | (with_reducible first | exact .refl _ _ | assumption | apply balloc | apply Below.drew | apply bset | refine bstep ?_ ‹_› | refine bturn ?_ ‹_› ?_) | go_size)⟩
theorem run_dec_eql (w : World) (a b a' b' : Int) :
   (binOp .eql 23 (.agg #[.int .i64 a, .int .i64 b]) (.agg #[.int .i64 a', .int .i64 b'])).run Tryz.prog w = .ok (.bool (a == a' && b == b')) w := by
 go_simp
 by_cases h1 : a = a' <;> by_cases h2 : b = b' <;> simp [h1, h2]
theorem run_dec_neq (w : World) (a b a' b' : Int) :
   (binOp .neq 23 (.agg #[.int .i64 a, .int .i64 b]) (.agg #[.int .i64 a', .int .i64 b'])).run Tryz.prog w = .ok (.bool !(a == a' && b == b')) w := by
 go_simp
 by_cases h1 : a = a' <;> by_cases h2 : b = b' <;> simp [h1, h2]
attribute [local go_sem high] run_dec_eql run_dec_neq
def soundS (n s : Int) : Bool := (makeS n s).e == 0 && ((makeS n s).n == n && (makeS n s).s == s)
set_option maxHeartbeats 1000000 in
theorem sound_any (n s : Int) (hn0 : -9223372036854775808 ≤ n) (hn1 : n ≤ 9223372036854775807) (hs0 : -9223372036854775808 ≤ s) (hs1 : s ≤ 9223372036854775807) (w : World) :
   Calls Tryz.prog 54 #[.agg #[.int .i64 n, .int .i64 s]] w fun e w' => e = .returned (.bool (soundS n s)) ∧ Below w.heap.size w w' := by
 have HS : Hid (soundS n s = ((makeS n s).e == 0 && ((makeS n s).n == n && (makeS n s).s == s))) := rfl
 have hb0 := Blk.new w 23 #[.int .i64 n, .int .i64 s]
 have HMk := Lib.hid (make_any n s hn0 hn1 hs0 hs1)
 generalize makeS n s = r at *
 by_cases he : (r.e == 0) = true
 · go_enter Tryz.func54, Tryz.ntmps54
   go_wp2_with fail
   refine (HMk.out _).mono ?_
   rintro e w1 ⟨rfl, hb⟩
   replace hb0 := hb0.step hb
   have hla := hb0.lt; have hlla := lts hla; have qa0 := hb0.cell 0; have qa1 := hb0.cell 1; simp at qa0 qa1; have za0 := hb0.frozen 0; have za1 := hb0.frozen 1; have Hhb0 := Lib.hid hb0; clear hb0
   go_wp2
   go_ret
   exact ⟨by rw [HS.out]; simp [he], by (repeat' first | (with_reducible first | exact .refl _ _ | assumption | apply balloc | apply Below.drew | apply bset | refine bstep ?_ ‹_› | refine bturn ?_ ‹_› ?_) | go_size)⟩
 · replace he : (r.e == 0) = false := by simpa using he
   go_enter Tryz.func54, Tryz.ntmps54
   go_wp2_with fail
   refine (HMk.out _).mono ?_
   rintro e w1 ⟨rfl, hb⟩
   replace hb0 := hb0.step hb
   have hla := hb0.lt; have hlla := lts hla; have qa0 := hb0.cell 0; have qa1 := hb0.cell 1; simp at qa0 qa1; have za0 := hb0.frozen 0; have za1 := hb0.frozen 1; have Hhb0 := Lib.hid hb0; clear hb0
   go_wp2
   go_ret
   exact ⟨by rw [HS.out]; simp [he], by (repeat' first | (with_reducible first | exact .refl _ _ | assumption | apply balloc | apply Below.drew | apply bset | refine bstep ?_ ‹_› | refine bturn ?_ ‹_› ?_) | go_size)⟩
end Go.Proofs.YtapilekangmcoaaGreatDoor
namespace Go.Proofs.YtapilekangmcoaaGreatDoor
open Go.RowKit
attribute [local go_sem high] run_dec_eql run_dec_neq
/-- A slice of numbers in memory. -/
def DS (w : World) (A : Option Addr) (ds : List (Int × Int)) : Prop := ∀ i d, ds[i]? = some d → ∃ b o, A = some ⟨b, o, none⟩ ∧ w.cell? ⟨b, o + i * 2, none⟩ = some (.int .i64 d.1) ∧ w.cell? ⟨b, o + i * 2 + 1, none⟩ = some (.int .i64 d.2)
theorem DS.step {w w' : World} {A : Option Addr} {ds : List (Int × Int)} (h : DS w A ds) (hb : Below w.heap.size w w') : DS w' A ds := fun i v hv => by
 obtain ⟨b, o, h0, h1, h2⟩ := h i v hv
 exact ⟨b, o, h0, keep1 hb h1, keep1 hb h2⟩
theorem ds_one {w : World} {g : Nat} {T : TypeId} {a b : Int} (h : Blk w g T #[.int .i64 a, .int .i64 b]) : DS w (some ⟨g, 0, none⟩) [(a, b)] := by
 intro i v hv
 match i, hv with
 | 0, hv => obtain rfl : (a, b) = v := by simpa using hv
            exact ⟨g, 0, rfl, h.cell 0, h.cell 1⟩
 | n + 1, hv => simp at hv
def I64 (n : Int) : Prop := -9223372036854775808 ≤ n ∧ n ≤ 9223372036854775807
def allD (ds : List (Int × Int)) : Int := if ds.all (fun d => soundS d.1 d.2) then 0 else 2
theorem allD_stop {ds : List (Int × Int)} {k : Nat} {a b : Int} (hlt : k < ds.length) (hv : ds[k] = (a, b)) (h : soundS a b = false) : allD (ds.drop k) = 2 := by
 unfold allD
 rw [List.drop_eq_getElem_cons hlt, hv]
 simp [h]
theorem allD_go {ds : List (Int × Int)} {k : Nat} {a b : Int} (hlt : k < ds.length) (hv : ds[k] = (a, b)) (h : soundS a b = true) : allD (ds.drop k) = allD (ds.drop (k + 1)) := by
 unfold allD
 rw [List.drop_eq_getElem_cons hlt, hv]
 simp only [List.all_cons, h, Bool.true_and]
set_option maxHeartbeats 1000000 in
theorem all_any (A : Option Addr) (c : Nat) (ds : List (Int × Int)) (w : World) (hv : DS w A ds) (hn : ds.length ≤ maxLen) (hr : ∀ d ∈ ds, I64 d.1 ∧ I64 d.2) :
   Calls Tryz.prog 127 #[.slice A ds.length c] w fun e w' => e = .returned (.int .i64 (allD ds)) ∧ Below w.heap.size w w' := by
 unfold maxLen at hn
 go_enter Tryz.func127, Tryz.ntmps127
 go_wp2
 go_loopw [7] (fun i wr => ∃ k : Nat, k ≤ ds.length ∧ i = .int .i64 k ∧ Below w.heap.size w wr ∧ allD ds = allD (ds.drop k)) (fun i _ => ds.length - (intOf i).toNat)
 case atStart => exact ⟨0, Nat.zero_le _, rfl, Below.refl _ _, rfl⟩
 case round =>
   obtain ⟨k, hk, rfl, hbl, hall⟩ := hrel
   have HA := Lib.hid hall
   clear hall
   by_cases hlt : k < ds.length
   · obtain ⟨b, o, rfl, g0, g1⟩ := (hv.step hbl) k ds[k] (List.getElem?_eq_getElem hlt)
     have hr' := hr ds[k] (List.getElem_mem hlt)
     generalize hvv : ds[k] = d at *
     obtain ⟨x, y⟩ := d
     simp only at g0 g1 hr'
     have HV := Lib.hid hvv
     have HR := Lib.hid hr'
     clear hvv hv hr hr'
     by_cases hs : soundS x y = true
     · go_wp2_with (go_at_call 54; refine (sound_any _ _ HR.out.1.1 HR.out.1.2 HR.out.2.1 HR.out.2.2 _).mono ?_; rintro e w' ⟨rfl, hb⟩)
       go_roundw
       case rel => exact ⟨k + 1, by omega, by go_num, by (repeat' first | (with_reducible first | exact .refl _ _ | assumption | apply balloc | apply Below.drew | apply bset | refine bstep ?_ ‹_› | refine bturn ?_ ‹_› ?_) | go_size), by rw [HA.out, allD_go hlt HV.out hs]⟩
       case measure => simp [intOf]; omega
     · replace hs : soundS x y = false := by simpa using hs
       go_wp2_with (go_at_call 54; refine (sound_any _ _ HR.out.1.1 HR.out.1.2 HR.out.2.1 HR.out.2.2 _).mono ?_; rintro e w' ⟨rfl, hb⟩)
       go_ret
       exact ⟨by rw [HA.out, allD_stop hlt HV.out hs]; rfl, by (repeat' first | (with_reducible first | exact .refl _ _ | assumption | apply balloc | apply Below.drew | apply bset | refine bstep ?_ ‹_› | refine bturn ?_ ‹_› ?_) | go_size)⟩
   · go_wp2
     go_ret
     exact ⟨by rw [HA.out, List.drop_of_length_le (by omega)]; rfl, hbl⟩
theorem all_lit {A : Option Addr} {n c : Nat} {ds : List (Int × Int)} {w : World} (hl : ds.length = n) (hv : DS w A ds) (hn : ds.length ≤ maxLen) (hr : ∀ d ∈ ds, I64 d.1 ∧ I64 d.2) :
   Calls Tryz.prog 127 #[.slice A n c] w fun e w' => e = .returned (.int .i64 (allD ds)) ∧ Below w.heap.size w w' := hl ▸ all_any A c ds w hv hn hr
/-- deci.all of one number, of two: what lies in the block that the call itself lays. -/
theorem all_1 (a b : Int) (ha : I64 a) (hb : I64 b) (g c : Nat) (T : TypeId) (w : World) (h : Blk w g T #[.int .i64 a, .int .i64 b]) :
   Calls Tryz.prog 127 #[.slice (some ⟨g, 0, none⟩) 1 c] w fun e w' => e = .returned (.int .i64 (if soundS a b then 0 else 2)) ∧ Below w.heap.size w w' :=
 (all_lit (ds := [(a, b)]) rfl (ds_one h) (by simp [maxLen]) (by simp [ha, hb])).mono fun e w' ⟨h1, h2⟩ => ⟨by rw [h1]; simp [allD], h2⟩
theorem size_any (n s : Int) (h0 : -999999999999 ≤ n) (h1 : n ≤ 999999999999) (w : World) :
   Calls Tryz.prog 130 #[.agg #[.int .i64 n, .int .i64 s]] w fun e w' => e = .returned (.int .u64 (mag n)) ∧ w.alloc (.cells #[.int .i64 n, .int .i64 s] 23) = w' := by
 unfold mag
 by_cases hneg : n < 0
 · rw [if_pos hneg]
   go_enter Tryz.func130, Tryz.ntmps130
   go_wp2
   go_ret
   exact ⟨rfl, rfl⟩
 · rw [if_neg hneg]
   go_enter Tryz.func130, Tryz.ntmps130
   go_wp2
   go_ret
   exact ⟨rfl, rfl⟩
theorem sound_iff (n s : Int) : soundS n s = soundB n s := by
 by_cases hb : s < 0 ∨ 6 < s ∨ 999999999999 < n ∨ n < -999999999999
 · unfold soundS
   rw [make_bad hb]
   show false = soundB n s
   symm
   apply decide_eq_false
   rw [big_def]
   omega
 · have g : 0 ≤ s ∧ s ≤ 6 ∧ -999999999999 ≤ n ∧ n ≤ 999999999999 := by omega
   have hm : 0 ≤ mag n ∧ mag n ≤ 999999999999 := by unfold mag; split <;> omega
   have hbd := short_bd s.toNat (mag n) hm.1
   have hd : makeS n s = ⟨if decide (n < 0) = true then -(short s.toNat (mag n)).1 else (short s.toNat (mag n)).1, (short s.toNat (mag n)).2, 0⟩ := by
     rw [make_ok g]; unfold decS; rw [big_def, if_neg (by omega)]
   have hmod : mag n % 10 = 0 ↔ n % 10 = 0 := by unfold mag; split <;> omega
   unfold soundS
   rw [hd]
   by_cases hz : s = 0 ∨ ¬ n % 10 = 0
   · have hst : s.toNat = 0 ∨ ¬ mag n % 10 = 0 := by
       rcases hz with h | h
       · exact .inl (by omega)
       · exact .inr (by rw [hmod]; exact h)
     rw [short_stop hst]
     have e2 : ((s.toNat : Nat) : Int) = s := by omega
     have e1 : (if decide (n < 0) = true then -(mag n) else mag n) = n := by
       unfold mag
       by_cases h : n < 0 <;> simp [h]
     have hT : soundB n s = true := decide_eq_true (by rw [big_def]; omega)
     rw [hT]
     simp only [e1, e2]
     simp
   · have hF : soundB n s = false := decide_eq_false (by rw [big_def]; omega)
     rw [hF]
     obtain ⟨j, hj⟩ : ∃ j, s.toNat = j + 1 := ⟨s.toNat - 1, by omega⟩
     have hm10 : mag n % 10 = 0 := hmod.2 (by omega)
     rw [hj, short_go hm10]
     have hbd2 := short_bd j (mag n / 10) (by omega)
     have hne : ((short j (mag n / 10)).2 == s) = false := by
       simp only [beq_eq_false_iff_ne]
       omega
     simp only [hne, Bool.and_false]
theorem mag_bd {n : Int} (h0 : -999999999999 ≤ n) (h1 : n ≤ 999999999999) : mag n ≤ 999999999999 := by unfold mag; split <;> omega
theorem sound_bd {n s : Int} (h : soundS n s = true) : 0 ≤ s ∧ s ≤ 6 ∧ -999999999999 ≤ n ∧ n ≤ 999999999999 ∧ (s = 0 ∨ ¬ n % 10 = 0) := by
 rw [sound_iff] at h
 have := of_decide_eq_true h
 rw [big_def] at this
 exact ⟨this.1, this.2.1, this.2.2.1, this.2.2.2.1, this.2.2.2.2⟩
/-- cmp.Compare of two ints. -/
def cmpS (a b : Int) : Int := if a < b then -1 else if b < a then 1 else 0
end Go.Proofs.YtapilekangmcoaaGreatDoor
namespace Go.Proofs.YtapilekangmcoaaGreatDoor
open Go.RowKit
attribute [local go_sem high] run_dec_eql run_dec_neq
def unitsS (n s : Int) : Int := n * p10 (6 - s).toNat
end Go.Proofs.YtapilekangmcoaaGreatDoor
namespace Go.Proofs.YtapilekangmcoaaGreatDoor
open Go.RowKit
/-- What is left of n over ten to the k, signs and all. -/
theorem neg_div (m : Int) (h : 0 ≤ m) : (-m).tdiv 10 = -(m / 10) := by rw [Int.neg_tdiv, Int.tdiv_eq_ediv_of_nonneg h]
theorem neg_mod (m : Int) (h : 0 ≤ m) : (-m).tmod 10 = -(m % 10) := by rw [Int.neg_tmod, Int.tmod_eq_emod_of_nonneg h]
set_option maxHeartbeats 1000000 in
theorem rmake_any (n s : Int) (hn0 : -9223372036854775808 ≤ n) (hn1 : n ≤ 9223372036854775807) (hs0 : -9223372036854775808 ≤ s) (hs1 : s ≤ 9223372036854775807) (w : World) :
   Calls Tryz.prog 71 #[.int .i64 n, .int .i64 s] w fun e w' => e = .returned (.tuple #[.agg #[.int .i64 (makeS n s).n, .int .i64 (makeS n s).s], .int .i64 (makeS n s).e]) ∧ Below w.heap.size w w' := by
 have hb1 := Blk.new w 23 #[.int .i64 0, .int .i64 0]
 by_cases hbad : s < 0 ∨ 6 < s ∨ 999999999999 < n ∨ n < -999999999999
 · have HM := Lib.hid (make_bad hbad)
   by_cases g1 : s < 0
   · clear hbad
     go_enter Tryz.func71, Tryz.ntmps71
     go_wp2
     refine ret_blk2 rfl hb1 rfl Tryz.underlying23 rfl (by kernel_rfl) rfl ?_
     exact ⟨by rw [HM.out]; rfl, by (repeat' first | (with_reducible first | exact .refl _ _ | assumption | apply balloc | apply Below.drew | apply bset | refine bstep ?_ ‹_› | refine bturn ?_ ‹_› ?_) | go_size)⟩
   by_cases g2 : 6 < s
   · clear hbad
     go_enter Tryz.func71, Tryz.ntmps71
     go_wp2
     refine ret_blk2 rfl hb1 rfl Tryz.underlying23 rfl (by kernel_rfl) rfl ?_
     exact ⟨by rw [HM.out]; rfl, by (repeat' first | (with_reducible first | exact .refl _ _ | assumption | apply balloc | apply Below.drew | apply bset | refine bstep ?_ ‹_› | refine bturn ?_ ‹_› ?_) | go_size)⟩
   by_cases g3 : 999999999999 < n
   · clear hbad
     go_enter Tryz.func71, Tryz.ntmps71
     go_wp2
     refine ret_blk2 rfl hb1 rfl Tryz.underlying23 rfl (by kernel_rfl) rfl ?_
     exact ⟨by rw [HM.out]; rfl, by (repeat' first | (with_reducible first | exact .refl _ _ | assumption | apply balloc | apply Below.drew | apply bset | refine bstep ?_ ‹_› | refine bturn ?_ ‹_› ?_) | go_size)⟩
   have g4 : n < -999999999999 := by omega
   clear hbad
   go_enter Tryz.func71, Tryz.ntmps71
   go_wp2
   refine ret_blk2 rfl hb1 rfl Tryz.underlying23 rfl (by kernel_rfl) rfl ?_
   exact ⟨by rw [HM.out]; rfl, by (repeat' first | (with_reducible first | exact .refl _ _ | assumption | apply balloc | apply Below.drew | apply bset | refine bstep ?_ ‹_› | refine bturn ?_ ‹_› ?_) | go_size)⟩
 · have g : 0 ≤ s ∧ s ≤ 6 ∧ -999999999999 ≤ n ∧ n ≤ 999999999999 := by omega
   have hmg := mag_bd g.2.2.1 g.2.2.2
   have hbd := short_bd s.toNat (mag n) (mag_nn n)
   have HM : makeS n s = ⟨if decide (n < 0) = true then -(short s.toNat (mag n)).1 else (short s.toNat (mag n)).1, (short s.toNat (mag n)).2, 0⟩ := by
     rw [make_ok g]; unfold decS; rw [big_def, if_neg (by omega)]
   replace HM := Lib.hid HM
   obtain ⟨g1, g2, g3, g4⟩ := g
   clear hbad hn0 hn1 hs0 hs1 hbd
   by_cases hneg : n < 0
   · have hm2 : mag n = -n := by unfold mag; rw [if_pos hneg]
     have HM2 := Lib.hid hm2
     clear hm2
     go_enter Tryz.func71, Tryz.ntmps71
     go_wp2
     go_loop [0, 1] (fun v0 v1 => ∃ (m : Int) (k : Nat), v0 = .int .i64 (-m) ∧ v1 = .int .i64 k ∧ 0 ≤ m ∧ m ≤ 999999999999 ∧ k ≤ 6 ∧ short s.toNat (mag n) = short k m) (fun _ v1 => (intOf v1).toNat)
     case atStart => exact ⟨mag n, s.toNat, by rw [HM2.out, Int.neg_neg], by rw [Int.toNat_of_nonneg g1], mag_nn n, hmg, by omega, rfl⟩
     case round =>
       obtain ⟨m, k, rfl, rfl, hm0, hm1, hk, hsh⟩ := hrel
       have HS := Lib.hid hsh
       clear hsh
       have e1 := neg_div m hm0
       have e2 := neg_mod m hm0
       by_cases hz : k = 0
       · subst hz
         go_wp2
         refine ret_blk2 rfl (Blk.new w _ _) rfl Tryz.underlying23 rfl (by kernel_rfl) rfl ?_
         exact ⟨by rw [HM.out, if_pos (by simp; omega), HS.out, short_stop (.inl rfl)]; rfl, by (repeat' first | (with_reducible first | exact .refl _ _ | assumption | apply balloc | apply Below.drew | apply bset | refine bstep ?_ ‹_› | refine bturn ?_ ‹_› ?_) | go_size)⟩
       · by_cases hd : m % 10 = 0
         · have hd' : (-(m % 10) == 0) = true := by simp [hd]
           go_wp2
           go_round
           case rel => exact ⟨m / 10, k - 1, rfl, by rw [show (((k - 1 : Nat) : Int)) = (k : Int) - 1 from by omega], by omega, by omega, by omega, by
             rw [HS.out]
             obtain ⟨j, rfl⟩ : ∃ j, k = j + 1 := ⟨k - 1, by omega⟩
             exact short_go hd⟩
           case measure => simp [intOf]; omega
         · have hd' : (-(m % 10) == 0) = false := by simp; omega
           go_wp2
           refine ret_blk2 rfl (Blk.new w _ _) rfl Tryz.underlying23 rfl (by kernel_rfl) rfl ?_
           exact ⟨by rw [HM.out, if_pos (by simp; omega), HS.out, short_stop (.inr hd)]; rfl, by (repeat' first | (with_reducible first | exact .refl _ _ | assumption | apply balloc | apply Below.drew | apply bset | refine bstep ?_ ‹_› | refine bturn ?_ ‹_› ?_) | go_size)⟩
   · have hm2 : mag n = n := by unfold mag; rw [if_neg hneg]
     have HM2 := Lib.hid hm2
     clear hm2
     go_enter Tryz.func71, Tryz.ntmps71
     go_wp2
     go_loop [0, 1] (fun v0 v1 => ∃ (m : Int) (k : Nat), v0 = .int .i64 m ∧ v1 = .int .i64 k ∧ 0 ≤ m ∧ m ≤ 999999999999 ∧ k ≤ 6 ∧ short s.toNat (mag n) = short k m) (fun _ v1 => (intOf v1).toNat)
     case atStart => exact ⟨mag n, s.toNat, by rw [HM2.out], by rw [Int.toNat_of_nonneg g1], mag_nn n, hmg, by omega, rfl⟩
     case round =>
       obtain ⟨m, k, rfl, rfl, hm0, hm1, hk, hsh⟩ := hrel
       have HS := Lib.hid hsh
       clear hsh
       by_cases hz : k = 0
       · subst hz
         go_wp2
         refine ret_blk2 rfl (Blk.new w _ _) rfl Tryz.underlying23 rfl (by kernel_rfl) rfl ?_
         exact ⟨by rw [HM.out, if_neg (by simp; omega), HS.out, short_stop (.inl rfl)]; rfl, by (repeat' first | (with_reducible first | exact .refl _ _ | assumption | apply balloc | apply Below.drew | apply bset | refine bstep ?_ ‹_› | refine bturn ?_ ‹_› ?_) | go_size)⟩
       · by_cases hd : m % 10 = 0
         · have hd' : (m % 10 == 0) = true := by simp [hd]
           go_wp2
           go_round
           case rel => exact ⟨m / 10, k - 1, rfl, by rw [show (((k - 1 : Nat) : Int)) = (k : Int) - 1 from by omega], by omega, by omega, by omega, by
             rw [HS.out]
             obtain ⟨j, rfl⟩ : ∃ j, k = j + 1 := ⟨k - 1, by omega⟩
             exact short_go hd⟩
           case measure => simp [intOf]; omega
         · have hd' : (m % 10 == 0) = false := by simp; omega
           go_wp2
           refine ret_blk2 rfl (Blk.new w _ _) rfl Tryz.underlying23 rfl (by kernel_rfl) rfl ?_
           exact ⟨by rw [HM.out, if_neg (by simp; omega), HS.out, short_stop (.inr hd)]; rfl, by (repeat' first | (with_reducible first | exact .refl _ _ | assumption | apply balloc | apply Below.drew | apply bset | refine bstep ?_ ‹_› | refine bturn ?_ ‹_› ?_) | go_size)⟩
set_option maxHeartbeats 1000000 in
theorem rsound_any (n s : Int) (hn0 : -9223372036854775808 ≤ n) (hn1 : n ≤ 9223372036854775807) (hs0 : -9223372036854775808 ≤ s) (hs1 : s ≤ 9223372036854775807) (w : World) :
   Calls Tryz.prog 44 #[.agg #[.int .i64 n, .int .i64 s]] w fun e w' => e = .returned (.bool (soundS n s)) ∧ Below w.heap.size w w' := by
 have HS : Hid (soundS n s = ((makeS n s).e == 0 && ((makeS n s).n == n && (makeS n s).s == s))) := rfl
 have hb0 := Blk.new w 23 #[.int .i64 n, .int .i64 s]
 have HMk := Lib.hid (rmake_any n s hn0 hn1 hs0 hs1)
 generalize makeS n s = r at *
 by_cases he : (r.e == 0) = true
 · by_cases h2 : (r.n == n) = true
   · go_enter Tryz.func44, Tryz.ntmps44
     go_wp2_with fail
     refine (HMk.out _).mono ?_
     rintro e w1 ⟨rfl, hb⟩
     replace hb0 := hb0.step hb
     have hla := hb0.lt; have hlla := lts hla; have qa0 := hb0.cell 0; have qa1 := hb0.cell 1; simp at qa0 qa1; have za0 := hb0.frozen 0; have za1 := hb0.frozen 1; have Hhb0 := Lib.hid hb0; clear hb0
     go_wp2
     go_ret
     exact ⟨by rw [HS.out]; simp [he, h2], by (repeat' first | (with_reducible first | exact .refl _ _ | assumption | apply balloc | apply Below.drew | apply bset | refine bstep ?_ ‹_› | refine bturn ?_ ‹_› ?_) | go_size)⟩
   · replace h2 : (r.n == n) = false := by simpa using h2
     go_enter Tryz.func44, Tryz.ntmps44
     go_wp2_with fail
     refine (HMk.out _).mono ?_
     rintro e w1 ⟨rfl, hb⟩
     replace hb0 := hb0.step hb
     have hla := hb0.lt; have hlla := lts hla; have qa0 := hb0.cell 0; have qa1 := hb0.cell 1; simp at qa0 qa1; have za0 := hb0.frozen 0; have za1 := hb0.frozen 1; have Hhb0 := Lib.hid hb0; clear hb0
     go_wp2
     go_ret
     exact ⟨by rw [HS.out]; simp [he, h2], by (repeat' first | (with_reducible first | exact .refl _ _ | assumption | apply balloc | apply Below.drew | apply bset | refine bstep ?_ ‹_› | refine bturn ?_ ‹_› ?_) | go_size)⟩
 · replace he : (r.e == 0) = false := by simpa using he
   go_enter Tryz.func44, Tryz.ntmps44
   go_wp2_with fail
   refine (HMk.out _).mono ?_
   rintro e w1 ⟨rfl, hb⟩
   replace hb0 := hb0.step hb
   have hla := hb0.lt; have hlla := lts hla; have qa0 := hb0.cell 0; have qa1 := hb0.cell 1; simp at qa0 qa1; have za0 := hb0.frozen 0; have za1 := hb0.frozen 1; have Hhb0 := Lib.hid hb0; clear hb0
   go_wp2
   go_ret
   exact ⟨by rw [HS.out]; simp [he], by (repeat' first | (with_reducible first | exact .refl _ _ | assumption | apply balloc | apply Below.drew | apply bset | refine bstep ?_ ‹_› | refine bturn ?_ ‹_› ?_) | go_size)⟩
end Go.Proofs.YtapilekangmcoaaGreatDoor
namespace Go.Proofs.YtapilekangmcoaaGreatDoor.Days
open Go.RowKit
def I64 (n : Int) : Prop := -9223372036854775808 ≤ n ∧ n ≤ 9223372036854775807
theorem rem_bd (u : Int) {B : Int} (hB : 0 < B) : -B < u.tmod B ∧ u.tmod B < B ∧ (u.tmod B = 0 ↔ u % B = 0) := by
 by_cases h : 0 ≤ u
 · rw [Int.tmod_eq_emod_of_nonneg h]
   have h1 := Int.emod_nonneg u (b := B) (by omega)
   have h2 := Int.emod_lt_of_pos u hB
   exact ⟨by omega, h2, Iff.rfl⟩
 · obtain ⟨v, rfl⟩ : ∃ v, u = -v := ⟨-u, by omega⟩
   rw [Int.neg_tmod, Int.tmod_eq_emod_of_nonneg (by omega : 0 ≤ v)]
   have h1 := Int.emod_nonneg v (b := B) (by omega)
   have h2 := Int.emod_lt_of_pos v hB
   refine ⟨by omega, by omega, ?_⟩
   rw [show (-v % B = 0) ↔ (v % B = 0) from ⟨fun h => Int.emod_eq_zero_of_dvd (Int.dvd_neg.1 (Int.dvd_of_emod_eq_zero h)), fun h => Int.emod_eq_zero_of_dvd (Int.dvd_neg.2 (Int.dvd_of_emod_eq_zero h))⟩]
   omega
theorem leap_core (y r4 r100 r400 : Int) (h4 : y.tmod 4 = r4) (h100 : y.tmod 100 = r100) (h400 : y.tmod 400 = r400) (k4 : IntKind.i64.wrap r4 = r4) (k100 : IntKind.i64.wrap r100 = r100) (k400 : IntKind.i64.wrap r400 = r400) (w : World) :
   Calls Tryz.prog 210 #[.int .i64 y] w fun e w' => e = .returned (.bool (r4 == 0 && (!(r100 == 0) || r400 == 0))) ∧ w = w' := by
 by_cases z4 : r4 = 0
 · subst z4
   by_cases z1 : r100 = 0
   · subst z1
     go_enter Tryz.func210, Tryz.ntmps210
     go_wp2
     go_ret
     exact ⟨rfl, rfl⟩
   · have z1' : (r100 == 0) = false := by simpa using z1
     go_enter Tryz.func210, Tryz.ntmps210
     go_wp2
     go_ret
     exact ⟨by simp [z1'], rfl⟩
 · have z4' : (r4 == 0) = false := by simpa using z4
   go_enter Tryz.func210, Tryz.ntmps210
   go_wp2
   go_ret
   exact ⟨by simp [z4'], rfl⟩
theorem leap_any (y : Int) (w : World) : Calls Tryz.prog 210 #[.int .i64 y] w fun e w' => e = .returned (.bool (leapB y)) ∧ w = w' := by
 have b4 := rem_bd y (B := 4) (by decide)
 have b100 := rem_bd y (B := 100) (by decide)
 have b400 := rem_bd y (B := 400) (by decide)
 refine (leap_core y _ _ _ rfl rfl rfl (IntWalk.i64_in _ (by omega)) (IntWalk.i64_in _ (by omega)) (IntWalk.i64_in _ (by omega)) w).mono ?_
 rintro e w' ⟨rfl, rfl⟩
 refine ⟨?_, rfl⟩
 congr 2
 rw [Bool.eq_iff_iff, leap_iff]
 simp [b4.2.2, b100.2.2, b400.2.2]
theorem length_any (y m : Int) (w : World) : Calls Tryz.prog 187 #[.int .i64 y, .int .i64 m] w fun e w' => e = .returned (.int .i64 (lenS y m)) ∧ w = w' := by
 have HL : Hid (∀ b, leapB y = b → lenS y m = if m = 2 then (if b = true then 29 else 28) else if m = 4 ∨ m = 6 ∨ m = 9 ∨ m = 11 then 30 else 31) := fun b hb => by subst hb; rfl
 have HY := Lib.hid (leap_any y)
 generalize lenS y m = L at *
 generalize hlb : leapB y = b at *
 have HL2 := Lib.hid (HL.out b rfl)
 clear HL hlb
 by_cases h2 : m = 2
 · subst h2
   cases b
   all_goals
     go_enter Tryz.func187, Tryz.ntmps187
     go_wp2_with (go_at_call 210; refine (HY.out _).mono ?_; rintro e w' ⟨rfl, rfl⟩)
     go_ret
     exact ⟨by rw [HL2.out]; rfl, rfl⟩
 by_cases h4 : m = 4
 · subst h4
   go_enter Tryz.func187, Tryz.ntmps187
   go_wp2
   go_ret
   exact ⟨by rw [HL2.out]; rfl, rfl⟩
 by_cases h6 : m = 6
 · subst h6
   go_enter Tryz.func187, Tryz.ntmps187
   go_wp2
   go_ret
   exact ⟨by rw [HL2.out]; rfl, rfl⟩
 by_cases h9 : m = 9
 · subst h9
   go_enter Tryz.func187, Tryz.ntmps187
   go_wp2
   go_ret
   exact ⟨by rw [HL2.out]; rfl, rfl⟩
 by_cases h11 : m = 11
 · subst h11
   go_enter Tryz.func187, Tryz.ntmps187
   go_wp2
   go_ret
   exact ⟨by rw [HL2.out]; rfl, rfl⟩
 have e2 : (m == 2) = false := by simpa using h2
 have e4 : (m == 4) = false := by simpa using h4
 have e6 : (m == 6) = false := by simpa using h6
 have e9 : (m == 9) = false := by simpa using h9
 have e11 : (m == 11) = false := by simpa using h11
 go_enter Tryz.func187, Tryz.ntmps187
 go_wp2
 go_ret
 exact ⟨by rw [HL2.out, if_neg h2, if_neg (by omega)]; rfl, rfl⟩
theorem first_any (y : Int) (h0 : 1 ≤ y) (h1 : y ≤ 10000) (w : World) : Calls Tryz.prog 188 #[.int .i64 y] w fun e w' => e = .returned (.int .i64 (firstS y)) ∧ w = w' := by
 obtain ⟨k, rfl⟩ : ∃ k, y = k + 1 := ⟨y - 1, by omega⟩
 have hF : firstS (k + 1) = 365 * k + k / 4 - k / 100 + k / 400 := by unfold firstS; rw [Int.add_sub_cancel]
 have HF := Lib.hid hF
 clear hF
 have e : k + 1 - 1 = k := Int.add_sub_cancel _ _
 have g0 : 0 ≤ k := by omega
 have g1 : k ≤ 9999 := by omega
 clear h0 h1
 go_enter Tryz.func188, Tryz.ntmps188
 go_wp2
 go_ret
 exact ⟨by rw [HF.out]; rfl, rfl⟩
end Go.Proofs.YtapilekangmcoaaGreatDoor.Days
namespace Go.Proofs.YtapilekangmcoaaGreatDoor.Days
open Go.RowKit
set_option maxHeartbeats 1000000 in
theorem day_bad (y m d : Int) (h : ¬ okD y m d) (w : World) : Calls Tryz.prog 157 #[.int .i64 y, .int .i64 m, .int .i64 d] w fun e w' => e = .returned (.tuple #[.int .i64 0, .int .i64 3]) ∧ w = w' := by
 unfold okD at h
 by_cases g1 : y < 1
 · clear h
   go_enter Tryz.func157, Tryz.ntmps157
   go_wp2
   go_returns
   exact ⟨rfl, rfl⟩
 by_cases g2 : 9999 < y
 · clear h
   go_enter Tryz.func157, Tryz.ntmps157
   go_wp2
   go_returns
   exact ⟨rfl, rfl⟩
 by_cases g3 : m < 1
 · clear h
   go_enter Tryz.func157, Tryz.ntmps157
   go_wp2
   go_returns
   exact ⟨rfl, rfl⟩
 by_cases g4 : 12 < m
 · clear h
   go_enter Tryz.func157, Tryz.ntmps157
   go_wp2
   go_returns
   exact ⟨rfl, rfl⟩
 by_cases g5 : d < 1
 · clear h
   go_enter Tryz.func157, Tryz.ntmps157
   go_wp2
   go_returns
   exact ⟨rfl, rfl⟩
 have g6 : lenS y m < d := by omega
 clear h
 go_enter Tryz.func157, Tryz.ntmps157
 go_wp2_with (go_at_call 187; refine (length_any y m _).mono ?_; rintro e w' ⟨rfl, rfl⟩)
 go_returns
 exact ⟨rfl, rfl⟩
set_option maxHeartbeats 1000000 in
theorem day_ok (y m d : Int) (h : okD y m d) (w : World) : Calls Tryz.prog 157 #[.int .i64 y, .int .i64 m, .int .i64 d] w fun e w' => e = .returned (.tuple #[.int .i64 (dayN y m d), .int .i64 0]) ∧ w = w' := by
 have HD : Hid (dayN y m d = firstS y + cumS y (m - 1).toNat + (d - 1)) := rfl
 obtain ⟨g1, g2, g3, g4, g5, g6⟩ := h
 have f0 := first_ge g1
 have f1 := first_le g1
 have l0 := len_bd y m
 have f2 : 0 ≤ firstS y := by omega
 have f3 : firstS y ≤ 4000000 := by omega
 have d1 : d ≤ 31 := by omega
 clear f0 f1 l0
 go_enter Tryz.func157, Tryz.ntmps157
 go_wp2_with (first
   | (go_at_call 187; refine (length_any y m _).mono ?_; rintro e w' ⟨rfl, rfl⟩)
   | (go_at_call 188; refine (first_any y g1 (by omega) _).mono ?_; rintro e w' ⟨rfl, rfl⟩))
 go_loop [8, 9] (fun v i => ∃ (k : Nat) (x : Int), (k : Int) ≤ m - 1 ∧ i = .int .i64 ((k : Int) + 1) ∧ v = .int .i64 x ∧ x = firstS y + d - 1 + cumS y k) (fun _ i => (m - intOf i).toNat)
 case atStart => exact ⟨0, _, by omega, by rfl, rfl, by simp [cumS]⟩
 case round =>
   obtain ⟨k, x, hk, rfl, rfl, hx⟩ := hrel
   have hc := cum_bd y k
   have x0 : 0 ≤ x := by omega
   have x1 : x ≤ 5000000 := by omega
   have HX := Lib.hid hx
   clear hx hc
   by_cases hlt : (k : Int) + 1 < m
   · have l0 := len_bd y ((k : Int) + 1)
     obtain ⟨l1, l2⟩ := l0
     have HL : Hid (cumS y (k + 1) = cumS y k + lenS y ((k : Int) + 1)) := by rw [cum_succ]; rfl
     have HY := Lib.hid (length_any y ((k : Int) + 1))
     generalize lenS y ((k : Int) + 1) = L at *
     go_wp2_with (go_at_call 187; refine (HY.out _).mono ?_; rintro e w' ⟨rfl, rfl⟩)
     go_round
     case rel => exact ⟨k + 1, x + L, by omega, by go_num, rfl, by rw [HX.out, HL.out]; omega⟩
     case measure => simp [intOf]; omega
   · have e : (m - 1).toNat = k := by omega
     have E := Lib.hid e
     clear e
     go_wp2
     go_returns
     exact ⟨by rw [HD.out, E.out, show firstS y + cumS y k + (d - 1) = x from by rw [HX.out]; omega]; rfl, rfl⟩
set_option maxHeartbeats 1000000 in
theorem date_bad (n : Int) (h : n < 0 ∨ 3652058 < n) (w : World) : Calls Tryz.prog 169 #[.int .i64 n] w fun e w' => e = .returned (.tuple #[.int .i64 0, .int .i64 0, .int .i64 0, .int .i64 3]) ∧ w = w' := by
 by_cases g1 : n < 0
 · clear h
   go_enter Tryz.func169, Tryz.ntmps169
   go_wp2
   go_returns
   exact ⟨rfl, rfl⟩
 · have g2 : 3652058 < n := by omega
   clear h
   go_enter Tryz.func169, Tryz.ntmps169
   go_wp2
   go_returns
   exact ⟨rfl, rfl⟩
set_option maxHeartbeats 2000000 in
theorem date_ok (n y : Int) (m : Nat) (h0 : 0 ≤ n) (h1 : n ≤ 3652058) (y0 : 1 ≤ y) (y1 : y ≤ 9999) (m1 : m < 12) (c0 : firstS y + cumS y m ≤ n) (c1 : n < firstS y + cumS y (m + 1)) (d0 : firstS y ≤ n) (d1 : n < firstS (y + 1)) (w : World) :
   Calls Tryz.prog 169 #[.int .i64 n] w fun e w' => e = .returned (.tuple #[.int .i64 y, .int .i64 ((m : Int) + 1), .int .i64 (n - firstS y - cumS y m + 1), .int .i64 0]) ∧ w = w' := by
 have HC : Hid (firstS y + cumS y m ≤ n ∧ n < firstS y + cumS y (m + 1) ∧ firstS y ≤ n ∧ n < firstS (y + 1)) := ⟨c0, c1, d0, d1⟩
 have q0 : 0 ≤ n / 365 := by omega
 have q1 : n / 365 ≤ 10006 := by omega
 have f0 := first_ge y0
 have y2 : y ≤ n / 365 + 1 := by omega
 clear c0 c1 d1 f0
 go_enter Tryz.func169, Tryz.ntmps169
 go_wp2
 all_goals
   go_loop [2] (fun v => ∃ z : Int, v = .int .i64 z ∧ y ≤ z ∧ z ≤ 9999) (fun v => (intOf v).toNat)
   case atStart => exact ⟨_, rfl, by omega, by omega⟩
   case round =>
     obtain ⟨z, rfl, z0, z1⟩ := hrel
     have f2 := first_ge (y := z) (by omega)
     have f3 := first_le (y := z) (by omega)
     by_cases hgt : n < firstS z
     · have hne : ¬ z = y := by rintro rfl; omega
       have z2 : y + 1 ≤ z := by omega
       go_wp2_with (go_at_call 188; refine (first_any z (by omega) (by omega) _).mono ?_; rintro e w' ⟨rfl, rfl⟩)
       go_round
       case rel => exact ⟨z - 1, rfl, by omega, by omega⟩
       case measure => simp [intOf]; omega
     · obtain rfl : z = y := by
         apply Int.le_antisymm _ z0
         apply Int.le_of_not_gt
         intro hlt
         have := first_mono (a := y + 1) (b := z) (by omega)
         have := HC.out.2.2.2
         omega
       go_wp2_with (go_at_call 188; refine (first_any z (by omega) (by omega) _).mono ?_; rintro e w' ⟨rfl, rfl⟩)
       go_loop [0, 3] (fun v i => ∃ (k : Nat) (x : Int), k ≤ m ∧ i = .int .i64 ((k : Int) + 1) ∧ v = .int .i64 x ∧ x = n - firstS z - cumS z k ∧ 0 ≤ x ∧ x ≤ 3652058) (fun _ i => (20 - intOf i).toNat)
       case atStart => exact ⟨0, _, by omega, by rfl, rfl, by simp [cumS], by omega, by omega⟩
       case round =>
         obtain ⟨k, x, hk, rfl, rfl, hx, x0, x1⟩ := hrel
         have HX := Lib.hid hx
         clear hx
         have l0 := len_bd z ((k : Int) + 1)
         obtain ⟨l1, l2⟩ := l0
         have HL : Hid (cumS z (k + 1) = cumS z k + lenS z ((k : Int) + 1)) := by rw [cum_succ]; rfl
         have HY := Lib.hid (length_any z ((k : Int) + 1))
         generalize lenS z ((k : Int) + 1) = L at *
         by_cases hge : L ≤ x
         · have hlt : k < m := by
             apply Nat.lt_of_not_le
             intro hle
             obtain rfl : k = m := by omega
             have h1 := HC.out
             have h2 := HL.out
             have h3 := HX.out
             omega
           go_wp2_with (go_at_call 187; refine (HY.out _).mono ?_; rintro e w' ⟨rfl, rfl⟩)
           go_round
           case rel => exact ⟨k + 1, x - L, by omega, by go_num, rfl, by rw [HX.out, HL.out]; omega, by omega, by omega⟩
           case measure => simp [intOf]; omega
         · obtain rfl : k = m := by
             apply Nat.le_antisymm hk
             apply Nat.le_of_not_lt
             intro hlt
             have h0 := cum_mono z (a := k + 1) (b := m) (by omega)
             have h1 := HC.out
             have h2 := HL.out
             have h3 := HX.out
             omega
           go_wp2_with (go_at_call 187; refine (HY.out _).mono ?_; rintro e w' ⟨rfl, rfl⟩)
           go_returns
           exact ⟨by rw [← HX.out], rfl⟩
end Go.Proofs.YtapilekangmcoaaGreatDoor.Days
namespace Go.Proofs.YtapilekangmcoaaGreatDoor.Days
open Go.RowKit
end Go.Proofs.YtapilekangmcoaaGreatDoor.Days
namespace Go.Proofs.YtapilekangmcoaaGreatDoor.Dq
theorem short_mul : ∀ (j k : Nat) (n : Int), short (k + j) (n * p10 j) = short k n
 | 0, k, n => by rw [p10_zero, Int.mul_one, Nat.add_zero]
 | j + 1, k, n => by
   rw [← Nat.add_assoc, p10_succ, ← Int.mul_assoc, short_go (by omega), Int.mul_ediv_cancel _ (by decide)]
   exact short_mul j k n
theorem mag_mul {n p : Int} (h : 0 < p) : mag (n * p) = mag n * p := by
 unfold mag
 by_cases hn : n < 0
 · rw [if_pos hn, if_pos (Int.mul_neg_of_neg_of_pos hn h), Int.neg_mul]
 · rw [if_neg hn, if_neg (by have := Int.mul_nonneg (by omega : 0 ≤ n) (Int.le_of_lt h); omega)]
theorem neg_mul_iff {n p : Int} (h : 0 < p) : decide (n * p < 0) = decide (n < 0) := by
 rw [decide_eq_decide]
 constructor
 · intro hl
   apply Int.lt_of_not_ge
   intro hge
   have := Int.mul_nonneg hge (Int.le_of_lt h)
   omega
 · intro hl; exact Int.mul_neg_of_neg_of_pos hl h
/-- A sound number comes back out of its units. -/
theorem dec_units {n s : Int} (h : soundS n s = true) : decS 6 (mag (unitsS n s)) (decide (unitsS n s < 0)) = ⟨n, s, 0⟩ := by
 obtain ⟨b1, b2, b3, b4, _⟩ := sound_bd h
 have hp := p10_pos (6 - s).toNat
 have hm := make_ok (n := n) (s := s) ⟨b1, b2, b3, b4⟩
 have h' := h
 unfold soundS at h'
 rw [hm] at h'
 simp only [Bool.and_eq_true, beq_iff_eq] at h'
 have e : decS 6 (mag (unitsS n s)) (decide (unitsS n s < 0)) = decS s.toNat (mag n) (decide (n < 0)) := by
   unfold unitsS
   rw [mag_mul hp, neg_mul_iff hp]
   unfold decS
   have : short 6 (mag n * p10 (6 - s).toNat) = short s.toNat (mag n) := by
     have := short_mul (6 - s).toNat s.toNat (mag n)
     rw [show s.toNat + (6 - s).toNat = 6 by omega] at this
     exact this
   rw [this]
 rw [e]
 cases hd : decS s.toNat (mag n) (decide (n < 0)) with
 | mk a b c =>
   rw [hd] at h'
   simp only at h'
   rw [h'.1, h'.2.1, h'.2.2]
end Go.Proofs.YtapilekangmcoaaGreatDoor.Dq
namespace Go.Proofs.YtapilekangmcoaaGreatDoor.Dq
/-- Does a divisor's long quotient stay below 2 to the power 64 when it is rounded? -/
def okB (P b : Nat) : Bool := Nat.beq b 0 || Nat.blt b (2 * (b * 18446744073709551616 % P))
def okR (P : Nat) : Nat → Nat → Bool
 | 0, b => okB P b
 | d + 1, b => okR P d b && okR P d (b + 2 ^ d)
end Go.Proofs.YtapilekangmcoaaGreatDoor.Dq
namespace Go.Proofs.YtapilekangmcoaaGreatDoor.Dq
end Go.Proofs.YtapilekangmcoaaGreatDoor.Dq
