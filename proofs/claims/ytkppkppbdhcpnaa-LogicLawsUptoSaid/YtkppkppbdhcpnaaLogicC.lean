/- The walks of the reference of package logic. -/
import Derived.Test.YtkppkppbdhcpnaaLogicB
namespace Go.Proofs.Ytkppkppbdhcpnaa
open Go.RowKit
attribute [local go_sem high] run_val_eql run_val_neq

def randS (vs : List Val) : Val := if 0 < noS vs then tv false else if yesS vs = vs.length then tv true else nul
def rorS (vs : List Val) : Val := if 0 < yesS vs then tv true else if noS vs = vs.length then tv false else nul
def rnotS (v : Val) : Val := if yesS [v] + noS [v] = 0 then nul else tv (decide (noS [v] = 1))

theorem rand_1 {vs : List Val} (h : 0 < noS vs) : randS vs = tv false := by unfold randS; rw [if_pos h]
theorem rand_2 {vs : List Val} (h : noS vs = 0) (h2 : yesS vs = vs.length) : randS vs = tv true := by unfold randS; rw [if_neg (by omega), if_pos h2]
theorem rand_3 {vs : List Val} (h : noS vs = 0) (h2 : ¬ yesS vs = vs.length) : randS vs = nul := by unfold randS; rw [if_neg (by omega), if_neg h2]
theorem rand_any (A : Option Addr) (c : Nat) (vs : List Val) (w : World) (hv : VS w A vs) (hn : vs.length ≤ maxLen) :
    Calls Try.prog 9 #[.slice A vs.length c] w fun e w' => e = .returned (randS vs).v ∧ Below w.heap.size w w' := by
  have hnn := hn
  unfold maxLen at hnn
  have hb0 := Blk.new w 27 #[.int .i64 0, .int .i64 0, .int .i64 0, .string ⟨#[]⟩, .int .i64 0]
  have hy := yes_le vs
  have hno := no_le vs
  go_enter Try.func9, Try.ntmps9
  go_wp2_with fail
  refine (counts_any _ _ _ _ (hv.alloc _) hn).mono ?_
  rintro e w' ⟨rfl, hb⟩
  replace hb0 := hb0.step hb
  clear hv
  go_wp2_with (first | (go_at_call 15; refine (rtruth_any _ _).mono ?_; rintro e w' ⟨rfl, c1, rfl⟩) | (refine wpList_store_blk hb0 rfl _ _ _ (by rfl) _ (by rfl) (by rfl) (by (repeat (first | (with_reducible exact hb0) | (with_reducible refine Blk.alloc ?_ _) | (with_reducible refine Blk.drew ?_)))) (by rfl) (by kernel_rfl) (by simp [Value.oneCell']) ?_; intro w1 hb0n ht))
  all_goals
    refine ret_blk rfl hb0n rfl Try.underlying27 rfl (by kernel_rfl) rfl ?_
    refine ⟨?_, bturn (by (repeat' (first | (with_reducible exact Below.refl _ _) | (with_reducible assumption) | (with_reducible refine balloc ?_ _) | (with_reducible refine Below.drew ?_) | (with_reducible refine bset ?_ ?_ _) | (with_reducible refine bstep ?_ (by with_reducible assumption)) | go_size))) ht (Nat.le_refl _)⟩
    first
      | (rw [rand_1 (by first | omega | (simp_all; done) | (simp_all; omega))]; rfl)
      | (rw [rand_2 (by first | omega | (simp_all; done) | (simp_all; omega)) (by first | omega | (simp_all; done) | (simp_all; omega))]; rfl)
      | (rw [rand_3 (by first | omega | (simp_all; done) | (simp_all; omega)) (by first | omega | (simp_all; done) | (simp_all; omega))]; rfl)
theorem ror_1 {vs : List Val} (h : 0 < yesS vs) : rorS vs = tv true := by unfold rorS; rw [if_pos h]
theorem ror_2 {vs : List Val} (h : yesS vs = 0) (h2 : noS vs = vs.length) : rorS vs = tv false := by unfold rorS; rw [if_neg (by omega), if_pos h2]
theorem ror_3 {vs : List Val} (h : yesS vs = 0) (h2 : ¬ noS vs = vs.length) : rorS vs = nul := by unfold rorS; rw [if_neg (by omega), if_neg h2]
theorem ror_any (A : Option Addr) (c : Nat) (vs : List Val) (w : World) (hv : VS w A vs) (hn : vs.length ≤ maxLen) :
    Calls Try.prog 11 #[.slice A vs.length c] w fun e w' => e = .returned (rorS vs).v ∧ Below w.heap.size w w' := by
  have hnn := hn
  unfold maxLen at hnn
  have hb0 := Blk.new w 27 #[.int .i64 0, .int .i64 0, .int .i64 0, .string ⟨#[]⟩, .int .i64 0]
  have hy := yes_le vs
  have hno := no_le vs
  go_enter Try.func11, Try.ntmps11
  go_wp2_with fail
  refine (counts_any _ _ _ _ (hv.alloc _) hn).mono ?_
  rintro e w' ⟨rfl, hb⟩
  replace hb0 := hb0.step hb
  clear hv
  go_wp2_with (first | (go_at_call 15; refine (rtruth_any _ _).mono ?_; rintro e w' ⟨rfl, c1, rfl⟩) | (refine wpList_store_blk hb0 rfl _ _ _ (by rfl) _ (by rfl) (by rfl) (by (repeat (first | (with_reducible exact hb0) | (with_reducible refine Blk.alloc ?_ _) | (with_reducible refine Blk.drew ?_)))) (by rfl) (by kernel_rfl) (by simp [Value.oneCell']) ?_; intro w1 hb0n ht))
  all_goals
    refine ret_blk rfl hb0n rfl Try.underlying27 rfl (by kernel_rfl) rfl ?_
    refine ⟨?_, bturn (by (repeat' (first | (with_reducible exact Below.refl _ _) | (with_reducible assumption) | (with_reducible refine balloc ?_ _) | (with_reducible refine Below.drew ?_) | (with_reducible refine bset ?_ ?_ _) | (with_reducible refine bstep ?_ (by with_reducible assumption)) | go_size))) ht (Nat.le_refl _)⟩
    first
      | (rw [ror_1 (by first | omega | (simp_all; done) | (simp_all; omega))]; rfl)
      | (rw [ror_2 (by first | omega | (simp_all; done) | (simp_all; omega)) (by first | omega | (simp_all; done) | (simp_all; omega))]; rfl)
      | (rw [ror_3 (by first | omega | (simp_all; done) | (simp_all; omega)) (by first | omega | (simp_all; done) | (simp_all; omega))]; rfl)


theorem rnot_0 {v : Val} (h : ((yesS [v] : Int) + (noS [v] : Int) == 0) = true) : rnotS v = nul := by
  unfold rnotS
  rw [if_pos (by simp at h; omega)]
theorem rnot_1 {v : Val} (h : ((yesS [v] : Int) + (noS [v] : Int) == 0) = false) : rnotS v = tv ((noS [v] : Int) == 1) := by
  unfold rnotS
  rw [if_neg (by simp at h; omega)]
  congr 1
  rw [Bool.eq_iff_iff]
  simp
  omega

set_option maxHeartbeats 400000 in
theorem rnot_any (a : Val) (w : World) : Calls Try.prog 13 #[.agg #[.int .i64 a.k, .int .i64 a.n, .int .i64 a.s, .string a.t, .int .i64 a.m]] w fun e w' => e = .returned (rnotS a).v ∧ Below w.heap.size w w' := by
  have hy := yes_le [a]
  have hno := no_le [a]
  simp only [List.length_cons, List.length_nil] at hy hno
  have hb0 := Blk.new (w.alloc (.cells #[.int .i64 a.k, .int .i64 a.n, .int .i64 a.s, .string a.t, .int .i64 a.m] 27)) 27 #[.int .i64 0, .int .i64 0, .int .i64 0, .string ⟨#[]⟩, .int .i64 0]
  simp only [World.size_alloc] at hb0
  have hb0 := hb0.alloc (.cells #[.int .i64 a.k, .int .i64 a.n, .int .i64 a.s, .string a.t, .int .i64 a.m] 27)
  go_enter Try.func13, Try.ntmps13
  go_wp2_with fail
  refine (counts_any _ _ [a] _ ?_ (by simp [maxLen])).mono ?_
  · intro i v hv
    match i, hv with
    | 0, hv =>
      obtain rfl : a = v := by simpa using hv
      refine ⟨_, 0, rfl, ?_⟩
      simp [go_sem]
    | n + 1, hv => simp at hv
  rintro e w' ⟨rfl, hb⟩
  replace hb0 := hb0.step hb
  go_wp2_with (first | (go_at_call 15; refine (rtruth_any _ _).mono ?_; rintro e w' ⟨rfl, c1, rfl⟩) | (refine wpList_store_blk hb0 rfl _ _ _ (by rfl) _ (by rfl) (by rfl) (by (repeat (first | (with_reducible exact hb0) | (with_reducible refine Blk.alloc ?_ _) | (with_reducible refine Blk.drew ?_)))) (by rfl) (by kernel_rfl) (by simp [Value.oneCell']) ?_; intro w1 hb0n ht))
  all_goals
    refine ret_blk rfl hb0n rfl Try.underlying27 rfl (by kernel_rfl) rfl ?_
    refine ⟨?_, bturn (by (repeat' (first | (with_reducible exact Below.refl _ _) | (with_reducible assumption) | (with_reducible refine balloc ?_ _) | (with_reducible refine Below.drew ?_) | (with_reducible refine bset ?_ ?_ _) | (with_reducible refine bstep ?_ (by with_reducible assumption)) | go_size))) ht (by simp)⟩
  · rw [rnot_0 (by assumption)]; rfl
  · rw [rnot_1 (by assumption)]; rfl
end Go.Proofs.Ytkppkppbdhcpnaa
