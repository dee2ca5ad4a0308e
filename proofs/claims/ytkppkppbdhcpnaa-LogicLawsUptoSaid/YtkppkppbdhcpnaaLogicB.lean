/- The walks of package logic over slices of values. -/
import Derived.Test.YtkppkppbdhcpnaaLogic
namespace Go.Proofs.Ytkppkppbdhcpnaa
open Go.RowKit
attribute [local go_sem high] run_val_eql run_val_neq

/-- A slice of values in memory. -/
def VS (w : World) (A : Option Addr) (vs : List Val) : Prop := ∀ i v, vs[i]? = some v → ∃ b o, A = some ⟨b, o, none⟩ ∧ w.cell? ⟨b, o + i * 5, none⟩ = some (.int .i64 v.k) ∧ w.cell? ⟨b, o + i * 5 + 1, none⟩ = some (.int .i64 v.n) ∧ w.cell? ⟨b, o + i * 5 + 2, none⟩ = some (.int .i64 v.s) ∧ w.cell? ⟨b, o + i * 5 + 3, none⟩ = some (.string v.t) ∧ w.cell? ⟨b, o + i * 5 + 4, none⟩ = some (.int .i64 v.m)
theorem VS.step {w w' : World} {A : Option Addr} {vs : List Val} (h : VS w A vs) (hb : Below w.heap.size w w') : VS w' A vs := fun i v hv => by
  obtain ⟨b, o, h0, h1, h2, h3, h4, h5⟩ := h i v hv
  exact ⟨b, o, h0, keep1 hb h1, keep1 hb h2, keep1 hb h3, keep1 hb h4, keep1 hb h5⟩
theorem VS.alloc {w : World} {A : Option Addr} {vs : List Val} (h : VS w A vs) (o : Obj) : VS (w.alloc o) A vs := h.step (balloc (Below.refl _ _) o)
theorem VS.drew {w : World} {A : Option Addr} {vs : List Val} (h : VS w A vs) : VS w.drew A vs := h

def allS (want : Bool) : Val → List Val → Val
  | out, [] => out
  | out, v :: r => if veq v (tv !want) then v else if veq v (tv want) then allS want out r else allS want nul r

theorem all_hit {want : Bool} {out v : Val} {vs : List Val} {k : Nat} (hlt : k < vs.length) (hv : vs[k] = v) (h : veq v (tv !want) = true) : allS want out (vs.drop k) = v := by
  rw [List.drop_eq_getElem_cons hlt, hv, allS, if_pos h]
theorem all_on {want : Bool} {out v : Val} {vs : List Val} {k : Nat} (hlt : k < vs.length) (hv : vs[k] = v) (h : veq v (tv !want) = false) (h2 : veq v (tv want) = true) : allS want out (vs.drop k) = allS want out (vs.drop (k + 1)) := by
  rw [List.drop_eq_getElem_cons hlt, hv, allS, if_neg (by simp [h]), if_pos h2]
theorem all_off {want : Bool} {out v : Val} {vs : List Val} {k : Nat} (hlt : k < vs.length) (hv : vs[k] = v) (h : veq v (tv !want) = false) (h2 : veq v (tv want) = false) : allS want out (vs.drop k) = allS want nul (vs.drop (k + 1)) := by
  rw [List.drop_eq_getElem_cons hlt, hv, allS, if_neg (by simp [h]), if_neg (by simp [h2])]

set_option maxHeartbeats 400000 in
theorem all_any (want : Bool) (A : Option Addr) (c : Nat) (vs : List Val) (w : World) (hv : VS w A vs) (hn : vs.length ≤ maxLen) :
    Calls Try.prog 17 #[.bool want, .slice A vs.length c] w fun e w' => e = .returned (allS want (tv want) vs).v ∧ Below w.heap.size w w' := by
  unfold maxLen at hn
  go_enter Try.func17, Try.ntmps17
  go_wp2_with (go_at_call 16; refine (truth_any _ _).mono ?_; rintro e w' ⟨rfl, c1, c2, rfl⟩)
  go_loopw [12] (fun i wr => ∃ (k : Nat) (out : Val), k ≤ vs.length ∧ i = .int .i64 k ∧ Blk wr w.heap.size 27 #[.int .i64 0, .int .i64 0, .int .i64 0, .string ⟨#[]⟩, .int .i64 0] ∧ Blk wr (w.heap.size + 1 + 1 + 1) 27 #[.int .i64 out.k, .int .i64 out.n, .int .i64 out.s, .string out.t, .int .i64 out.m] ∧ Below w.heap.size w wr ∧ allS want (tv want) vs = allS want out (vs.drop k)) (fun i _ => vs.length - (intOf i).toNat)
  case atStart =>
    refine ⟨0, tv want, Nat.zero_le _, rfl, ?_, ?_, by (repeat' (first | (with_reducible exact Below.refl _ _) | (with_reducible assumption) | (with_reducible refine balloc ?_ _) | (with_reducible refine Below.drew ?_) | (with_reducible refine bset ?_ ?_ _) | (with_reducible refine bstep ?_ (by with_reducible assumption)) | go_size)), rfl⟩
    · exact (((Blk.new _ _ _).alloc _).alloc _).alloc _
    · exact Blk.new' _ _ _ (by simp)
  case round =>
    obtain ⟨k, out, hk, rfl, hb0, hb1, hbl, hall⟩ := hrel
    have HA := Lib.hid hall
    clear hall
    have hsz := hbl.size
    by_cases hlt : k < vs.length
    · obtain ⟨b, o, rfl, g0, g1, g2, g3, g4⟩ := (hv.step hbl) k vs[k] (List.getElem?_eq_getElem hlt)
      generalize hvv : vs[k] = v at *
      have HV := Lib.hid hvv
      clear hvv
      clear hv
      go_wp2_with (first | (go_at_call 16; refine (truth_any _ _).mono ?_; rintro e w' ⟨rfl, c1, c2, rfl⟩) | (refine wpList_store_blk hb0 rfl _ _ _ (by rfl) _ (by rfl) (by rfl) (by (repeat (first | (with_reducible exact hb0) | (with_reducible refine Blk.alloc ?_ _) | (with_reducible refine Blk.drew ?_)))) (by rfl) (by kernel_rfl) (by simp [Value.oneCell']) ?_; intro w1 hb0n ht) | (refine wpList_store_blk hb1 rfl _ _ _ (by rfl) _ (by rfl) (by rfl) (by (repeat (first | (with_reducible exact hb1) | (with_reducible refine Blk.alloc ?_ _) | (with_reducible refine Blk.drew ?_)))) (by rfl) (by kernel_rfl) (by simp [Value.oneCell']) ?_; intro w1 hb1n ht))
      · refine ret_blk rfl hb0n rfl Try.underlying27 rfl (by kernel_rfl) rfl ?_
        exact ⟨by rw [HA.out, all_hit hlt HV.out (by assumption)]; rfl, bturn (by (repeat' (first | (with_reducible exact Below.refl _ _) | (with_reducible assumption) | (with_reducible refine balloc ?_ _) | (with_reducible refine Below.drew ?_) | (with_reducible refine bset ?_ ?_ _) | (with_reducible refine bstep ?_ (by with_reducible assumption)) | go_size))) ht (Nat.le_refl _)⟩
      · go_roundw
        case rel => exact ⟨k + 1, out, by omega, by go_num, by (repeat (first | (with_reducible exact hb0) | (with_reducible refine Blk.alloc ?_ _) | (with_reducible refine Blk.drew ?_))), by (repeat (first | (with_reducible exact hb1) | (with_reducible refine Blk.alloc ?_ _) | (with_reducible refine Blk.drew ?_))), by (repeat' (first | (with_reducible exact Below.refl _ _) | (with_reducible assumption) | (with_reducible refine balloc ?_ _) | (with_reducible refine Below.drew ?_) | (with_reducible refine bset ?_ ?_ _) | (with_reducible refine bstep ?_ (by with_reducible assumption)) | go_size)), by rw [HA.out, all_on hlt HV.out (by assumption) (by assumption)]⟩
        case measure => simp [intOf]; omega
      · go_roundw
        case rel => exact ⟨k + 1, nul, by omega, by go_num, Blk.turn (by (repeat (first | (with_reducible exact hb0) | (with_reducible refine Blk.alloc ?_ _) | (with_reducible refine Blk.drew ?_)))) ht (by omega), hb1n, bturn (by (repeat' (first | (with_reducible exact Below.refl _ _) | (with_reducible assumption) | (with_reducible refine balloc ?_ _) | (with_reducible refine Below.drew ?_) | (with_reducible refine bset ?_ ?_ _) | (with_reducible refine bstep ?_ (by with_reducible assumption)) | go_size))) ht (by omega), by rw [HA.out, all_off hlt HV.out (by assumption) (by assumption)]⟩
        case measure => simp [intOf]; omega
    · go_wp2_with (first | (refine wpList_load_blk hb1 rfl _ _ (by rfl) (by rfl) (by (repeat (first | (with_reducible exact hb1) | (with_reducible refine Blk.alloc ?_ _) | (with_reducible refine Blk.drew ?_)))) _ Try.underlying27 rfl (by kernel_rfl) ?_) | (refine wpList_store_blk hb0 rfl _ _ _ (by rfl) _ (by rfl) (by rfl) (by (repeat (first | (with_reducible exact hb0) | (with_reducible refine Blk.alloc ?_ _) | (with_reducible refine Blk.drew ?_)))) (by rfl) (by kernel_rfl) (by simp [Value.oneCell']) ?_; intro w1 hb0n ht))
      refine ret_blk rfl hb0n rfl Try.underlying27 rfl (by kernel_rfl) rfl ?_
      exact ⟨by rw [HA.out, List.drop_of_length_le (by omega)]; rfl, bturn (by (repeat' (first | (with_reducible exact Below.refl _ _) | (with_reducible assumption) | (with_reducible refine balloc ?_ _) | (with_reducible refine Below.drew ?_) | (with_reducible refine bset ?_ ?_ _) | (with_reducible refine bstep ?_ (by with_reducible assumption)) | go_size))) ht (Nat.le_refl _)⟩

theorem and_any (A : Option Addr) (c : Nat) (vs : List Val) (w : World) (hv : VS w A vs) (hn : vs.length ≤ maxLen) :
    Calls Try.prog 8 #[.slice A vs.length c] w fun e w' => e = .returned (allS true (tv true) vs).v ∧ Below w.heap.size w w' := by
  go_enter Try.func8, Try.ntmps8
  have hb0 := Blk.new w 27 #[.int .i64 0, .int .i64 0, .int .i64 0, .string ⟨#[]⟩, .int .i64 0]
  go_wp2_with fail
  refine (all_any _ _ _ _ _ (hv.alloc _) hn).mono ?_
  rintro e w' ⟨rfl, hb⟩
  replace hb0 := hb0.step hb
  unfold Val.v
  go_wp2_with (refine wpList_store_blk hb0 rfl _ _ _ (by rfl) _ (by rfl) (by rfl) (by (repeat (first | (with_reducible exact hb0) | (with_reducible refine Blk.alloc ?_ _) | (with_reducible refine Blk.drew ?_)))) (by rfl) (by kernel_rfl) (by simp [Value.oneCell']) ?_; intro w1 hb0n ht)
  refine ret_blk rfl hb0n rfl Try.underlying27 rfl (by kernel_rfl) rfl ?_
  exact ⟨rfl, bturn (by (repeat' (first | (with_reducible exact Below.refl _ _) | (with_reducible assumption) | (with_reducible refine balloc ?_ _) | (with_reducible refine Below.drew ?_) | (with_reducible refine bset ?_ ?_ _) | (with_reducible refine bstep ?_ (by with_reducible assumption)) | go_size))) ht (Nat.le_refl _)⟩
theorem or_any (A : Option Addr) (c : Nat) (vs : List Val) (w : World) (hv : VS w A vs) (hn : vs.length ≤ maxLen) :
    Calls Try.prog 10 #[.slice A vs.length c] w fun e w' => e = .returned (allS false (tv false) vs).v ∧ Below w.heap.size w w' := by
  go_enter Try.func10, Try.ntmps10
  have hb0 := Blk.new w 27 #[.int .i64 0, .int .i64 0, .int .i64 0, .string ⟨#[]⟩, .int .i64 0]
  go_wp2_with fail
  refine (all_any _ _ _ _ _ (hv.alloc _) hn).mono ?_
  rintro e w' ⟨rfl, hb⟩
  replace hb0 := hb0.step hb
  unfold Val.v
  go_wp2_with (refine wpList_store_blk hb0 rfl _ _ _ (by rfl) _ (by rfl) (by rfl) (by (repeat (first | (with_reducible exact hb0) | (with_reducible refine Blk.alloc ?_ _) | (with_reducible refine Blk.drew ?_)))) (by rfl) (by kernel_rfl) (by simp [Value.oneCell']) ?_; intro w1 hb0n ht)
  refine ret_blk rfl hb0n rfl Try.underlying27 rfl (by kernel_rfl) rfl ?_
  exact ⟨rfl, bturn (by (repeat' (first | (with_reducible exact Below.refl _ _) | (with_reducible assumption) | (with_reducible refine balloc ?_ _) | (with_reducible refine Below.drew ?_) | (with_reducible refine bset ?_ ?_ _) | (with_reducible refine bstep ?_ (by with_reducible assumption)) | go_size))) ht (Nat.le_refl _)⟩

/-- What a value comes to in the reference's count. -/
def yesS (vs : List Val) : Nat := (vs.filter fun v => veq v (tv true)).length
def noS (vs : List Val) : Nat := (vs.filter fun v => veq v (tv false)).length
theorem yes_le (vs : List Val) : yesS vs ≤ vs.length := List.length_filter_le _ _
theorem no_le (vs : List Val) : noS vs ≤ vs.length := List.length_filter_le _ _
theorem yes_take {vs : List Val} {v : Val} {k : Nat} (hlt : k < vs.length) (hv : vs[k] = v) : yesS (vs.take (k + 1)) = yesS (vs.take k) + if veq v (tv true) then 1 else 0 := by
  rw [List.take_succ_eq_append_getElem hlt, hv]
  unfold yesS
  rw [List.filter_append, List.length_append]
  by_cases h : veq v (tv true) = true <;> simp [h]
theorem no_take {vs : List Val} {v : Val} {k : Nat} (hlt : k < vs.length) (hv : vs[k] = v) : noS (vs.take (k + 1)) = noS (vs.take k) + if veq v (tv false) then 1 else 0 := by
  rw [List.take_succ_eq_append_getElem hlt, hv]
  unfold noS
  rw [List.filter_append, List.length_append]
  by_cases h : veq v (tv false) = true <;> simp [h]

set_option maxHeartbeats 1000000 in
theorem counts_any (A : Option Addr) (c : Nat) (vs : List Val) (w : World) (hv : VS w A vs) (hn : vs.length ≤ maxLen) :
    Calls Try.prog 18 #[.slice A vs.length c] w fun e w' => e = .returned (.tuple #[.int .i64 (yesS vs), .int .i64 (noS vs)]) ∧ Below w.heap.size w w' := by
  unfold maxLen at hn
  go_enter Try.func18, Try.ntmps18
  go_wp2
  go_loopw [2, 3, 4] (fun y n i wr => ∃ k : Nat, k ≤ vs.length ∧ i = .int .i64 k ∧ y = .int .i64 (yesS (vs.take k)) ∧ n = .int .i64 (noS (vs.take k)) ∧ Below w.heap.size w wr) (fun _ _ i _ => vs.length - (intOf i).toNat)
  case atStart => exact ⟨0, Nat.zero_le _, rfl, rfl, rfl, Below.refl _ _⟩
  case round =>
    obtain ⟨k, hk, rfl, rfl, rfl, hbl⟩ := hrel
    have hy := yes_le (vs.take k)
    have hno := no_le (vs.take k)
    rw [List.length_take] at hy hno
    by_cases hlt : k < vs.length
    · obtain ⟨b, o, rfl, g0, g1, g2, g3, g4⟩ := (hv.step hbl) k vs[k] (List.getElem?_eq_getElem hlt)
      generalize hvv : vs[k] = v at *
      have HY := Lib.hid (yes_take hlt hvv)
      have HN := Lib.hid (no_take hlt hvv)
      clear hvv hv
      go_wp2_with fail
      have hi0 : (0 : Int) ≤ (k : Int) := by omega
      have hi1 : (k : Int) < (vs.length : Int) := by omega
      go_region_held3 (fun w' => w'.cell? ⟨b, o + k * 5, none⟩ = some (.int .i64 v.k) ∧ w'.cell? ⟨b, o + k * 5 + 1, none⟩ = some (.int .i64 v.n) ∧ w'.cell? ⟨b, o + k * 5 + 2, none⟩ = some (.int .i64 v.s) ∧ w'.cell? ⟨b, o + k * 5 + 3, none⟩ = some (.string v.t) ∧ w'.cell? ⟨b, o + k * 5 + 4, none⟩ = some (.int .i64 v.m)) ((first | (simp [*, World.cell?_alloc_some, World.cell?_setCell_far]; done) | (go_split_ands; (repeat' apply And.intro) <;> first | assumption | exact keep1 (by assumption) (by assumption) | (simp [go_sem]; done) | (repeat (first | (with_reducible assumption) | (with_reducible refine keepd ?_) | (with_reducible refine keepa2 ?_))))))
        ((go_at_call 15; refine (rtruth_any _ _).mono ?_; rintro e w' ⟨rfl, c1, rfl⟩))
      all_goals go_wp2_with fail
      all_goals
        go_region_held3 (fun w' => w'.cell? ⟨b, o + k * 5, none⟩ = some (.int .i64 v.k) ∧ w'.cell? ⟨b, o + k * 5 + 1, none⟩ = some (.int .i64 v.n) ∧ w'.cell? ⟨b, o + k * 5 + 2, none⟩ = some (.int .i64 v.s) ∧ w'.cell? ⟨b, o + k * 5 + 3, none⟩ = some (.string v.t) ∧ w'.cell? ⟨b, o + k * 5 + 4, none⟩ = some (.int .i64 v.m)) ((first | (simp [*, World.cell?_alloc_some, World.cell?_setCell_far]; done) | (go_split_ands; (repeat' apply And.intro) <;> first | assumption | exact keep1 (by assumption) (by assumption) | (simp [go_sem]; done) | (repeat (first | (with_reducible assumption) | (with_reducible refine keepd ?_) | (with_reducible refine keepa2 ?_))))))
          ((go_at_call 15; refine (rtruth_any _ _).mono ?_; rintro e w' ⟨rfl, c2, rfl⟩))
      all_goals go_wp2_with fail
      all_goals
        go_roundw
        case rel => exact ⟨k + 1, by omega, by go_num, by rw [HY.out]; first | (rw [if_pos (by assumption)]; go_num) | (rw [if_neg (by simpa [tv] using ‹veq _ ⟨3, 0, 0, ⟨#[]⟩, bit true⟩ = false›)]; go_num), by rw [HN.out]; first | (rw [if_pos (by assumption)]; go_num) | (rw [if_neg (by simpa [tv] using ‹veq _ ⟨3, 0, 0, ⟨#[]⟩, bit false⟩ = false›)]; go_num), by (repeat' (first | (with_reducible exact Below.refl _ _) | (with_reducible assumption) | (with_reducible refine balloc ?_ _) | (with_reducible refine Below.drew ?_) | (with_reducible refine bset ?_ ?_ _) | (with_reducible refine bstep ?_ (by with_reducible assumption)) | go_size))⟩
        case measure => simp [intOf]; omega
    · go_wp2
      go_ret2
      exact ⟨by show Ending.returned (.tuple #[.int .i64 (yesS (vs.take k)), .int .i64 (noS (vs.take k))]) = _; rw [List.take_of_length_le (by omega)], hbl⟩
end Go.Proofs.Ytkppkppbdhcpnaa
