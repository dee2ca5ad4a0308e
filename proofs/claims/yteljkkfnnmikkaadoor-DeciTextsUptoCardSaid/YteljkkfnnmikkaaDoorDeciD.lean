/- The walks of package deci: Compare, Add. -/
import Derived.Test.YteljkkfnnmikkaaDoorDeciC
namespace Go.Proofs.YteljkkfnnmikkaaDoor
open Go.RowKit
attribute [local go_sem high] run_dec_eql run_dec_neq

def unitsS (n s : Int) : Int := n * p10 (6 - s).toNat
theorem units_bd {n s : Int} (h0 : -999999999999 ≤ n) (h1 : n ≤ 999999999999) : -1000000000000000000 ≤ unitsS n s ∧ unitsS n s ≤ 1000000000000000000 ∨ ¬ (0 ≤ s ∧ s ≤ 6) := by
  by_cases hs : 0 ≤ s ∧ s ≤ 6
  · left
    unfold unitsS
    have hp0 := p10_pos (6 - s).toNat
    have hp1 : p10 (6 - s).toNat ≤ 1000000 := p10_6 ▸ p10_mono (by omega)
    have a1 : n * p10 (6 - s).toNat ≤ 999999999999 * p10 (6 - s).toNat := Int.mul_le_mul_of_nonneg_right h1 (by omega)
    have a2 : -999999999999 * p10 (6 - s).toNat ≤ n * p10 (6 - s).toNat := Int.mul_le_mul_of_nonneg_right h0 (by omega)
    omega
  · exact .inr hs
theorem units_lit (n s : Int) (hn0 : -999999999999 ≤ n) (hn1 : n ≤ 999999999999) (hs0 : 0 ≤ s) (hs1 : s ≤ 6) (w : World) :
    Calls Tryd.prog 42 #[.agg #[.int .i64 n, .int .i64 s]] w fun e w' => e = .returned (.int .i64 (unitsS n s)) ∧ Below w.heap.size w w' := units_any n s hn0 hn1 hs0 hs1 w

def cmpD (n s n2 s2 : Int) : Int × Int := if soundS n s && soundS n2 s2 then (cmpS (unitsS n s) (unitsS n2 s2), 0) else (0, 2)
def addS (n s n2 s2 : Int) : Res := if soundS n s && soundS n2 s2 then decS 6 (mag (unitsS n s + unitsS n2 s2)) (decide (unitsS n s + unitsS n2 s2 < 0)) else ⟨0, 0, 2⟩

set_option maxHeartbeats 1000000 in
theorem compare_any (n s n2 s2 : Int) (hn : I64 n) (hs : I64 s) (hn2 : I64 n2) (hs2 : I64 s2) (w : World) :
    Calls Tryd.prog 25 #[.agg #[.int .i64 n, .int .i64 s], .agg #[.int .i64 n2, .int .i64 s2]] w fun e w' => e = .returned (.tuple #[.int .i64 (cmpD n s n2 s2).1, .int .i64 (cmpD n s n2 s2).2]) ∧ Below w.heap.size w w' := by
  have hb0 := (Blk.new w 23 #[.int .i64 n, .int .i64 s]).alloc (.cells #[.int .i64 n2, .int .i64 s2] 23)
  have hb2 := Blk.new' (w.alloc (.cells #[.int .i64 n, .int .i64 s] 23)) 23 #[.int .i64 n2, .int .i64 s2] (n := w.heap.size + 1) (by simp)
  have HN : Hid ((I64 n ∧ I64 s) ∧ I64 n2 ∧ I64 s2) := ⟨⟨hn, hs⟩, hn2, hs2⟩
  clear hn hs hn2 hs2
  by_cases h : (soundS n s && soundS n2 s2) = true
  · have HR : cmpD n s n2 s2 = (cmpS (unitsS n s) (unitsS n2 s2), 0) := by unfold cmpD; rw [if_pos h]
    replace HR := Lib.hid HR
    have h' := h
    simp only [Bool.and_eq_true] at h'
    obtain ⟨b1, b2, b3, b4, _⟩ := sound_bd h'.1
    obtain ⟨d1, d2, d3, d4, _⟩ := sound_bd h'.2
    clear h'
    go_enter Tryd.func25, Tryd.ntmps25
    go_wp2_with fail
    refine (all_2 n s n2 s2 HN.out.1.1 HN.out.1.2 HN.out.2.1 HN.out.2.2 _ _ 23 _ (Blk.new' _ _ _ (by simp))).mono ?_
    rintro e w1 ⟨rfl, hb⟩
    replace hb0 := (hb0.alloc _).step hb
    replace hb2 := (hb2.alloc _).step hb
    rw [if_pos h]
    have c0 := hb0.cell 0
    have c1 := hb0.cell 1
    have e0 := hb2.cell 0
    have e1 := hb2.cell 1
    simp at c0 c1 e0 e1
    clear h
    go_wp2_with fail
    go_region_held3 (fun w' => (w'.cell? ⟨w.heap.size, 0, none⟩ = some (.int .i64 n) ∧ w'.cell? ⟨w.heap.size, 1, none⟩ = some (.int .i64 s)) ∧ w'.cell? ⟨w.heap.size + 1, 0, none⟩ = some (.int .i64 n2) ∧ w'.cell? ⟨w.heap.size + 1, 1, none⟩ = some (.int .i64 s2)) ((first | (simp [*, World.cell?_alloc_some, World.cell?_setCell_far]; done) | (go_split_ands; (repeat' apply And.intro) <;> first | assumption | exact keep1 (by assumption) (by assumption) | (simp [go_sem]; done) | (repeat (first | (with_reducible assumption) | (with_reducible refine keepd ?_) | (with_reducible refine keepa2 ?_))))))
      (first
        | (go_at_call 42; refine (units_lit _ _ (by assumption) (by assumption) (by assumption) (by assumption) _).mono ?_; rintro e w' ⟨rfl, hb'⟩)
        | (go_at_call 43; refine (cmp_any _ _ _).mono ?_; rintro e w' ⟨rfl, rfl⟩))
    go_wp2_with fail
    go_returns
    exact ⟨by rw [HR.out]; rfl, by (repeat' (first | (with_reducible exact Below.refl _ _) | (with_reducible assumption) | (with_reducible refine balloc ?_ _) | (with_reducible refine Below.drew ?_) | (with_reducible refine bset ?_ ?_ _) | (with_reducible refine bstep ?_ (by with_reducible assumption)) | (with_reducible refine bturn ?_ (by with_reducible assumption) ?_) | go_size))⟩
  · have HR : cmpD n s n2 s2 = (0, 2) := by unfold cmpD; rw [if_neg h]
    replace HR := Lib.hid HR
    go_enter Tryd.func25, Tryd.ntmps25
    go_wp2_with fail
    refine (all_2 n s n2 s2 HN.out.1.1 HN.out.1.2 HN.out.2.1 HN.out.2.2 _ _ 23 _ (Blk.new' _ _ _ (by simp))).mono ?_
    rintro e w1 ⟨rfl, hb⟩
    rw [if_neg h]
    go_wp2_with fail
    go_returns
    exact ⟨by rw [HR.out]; rfl, by (repeat' (first | (with_reducible exact Below.refl _ _) | (with_reducible assumption) | (with_reducible refine balloc ?_ _) | (with_reducible refine Below.drew ?_) | (with_reducible refine bset ?_ ?_ _) | (with_reducible refine bstep ?_ (by with_reducible assumption)) | (with_reducible refine bturn ?_ (by with_reducible assumption) ?_) | go_size))⟩

set_option maxHeartbeats 2000000 in
set_option maxRecDepth 100000 in
theorem add_any (n s n2 s2 : Int) (hn : I64 n) (hs : I64 s) (hn2 : I64 n2) (hs2 : I64 s2) (w : World) :
    Calls Tryd.prog 22 #[.agg #[.int .i64 n, .int .i64 s], .agg #[.int .i64 n2, .int .i64 s2]] w fun e w' => e = .returned (.tuple #[.agg #[.int .i64 (addS n s n2 s2).n, .int .i64 (addS n s n2 s2).s], .int .i64 (addS n s n2 s2).e]) ∧ Below w.heap.size w w' := by
  have hb0 := ((Blk.new w 23 #[.int .i64 n, .int .i64 s]).alloc (.cells #[.int .i64 n2, .int .i64 s2] 23)).alloc (.cells #[.int .i64 0, .int .i64 0] 23)
  have hb2 := (Blk.new' (w.alloc (.cells #[.int .i64 n, .int .i64 s] 23)) 23 #[.int .i64 n2, .int .i64 s2] (n := w.heap.size + 1) (by simp)).alloc (.cells #[.int .i64 0, .int .i64 0] 23)
  have hb1 := Blk.new' ((w.alloc (.cells #[.int .i64 n, .int .i64 s] 23)).alloc (.cells #[.int .i64 n2, .int .i64 s2] 23)) 23 #[.int .i64 0, .int .i64 0] (n := w.heap.size + 1 + 1) (by simp)
  have HN : Hid ((I64 n ∧ I64 s) ∧ I64 n2 ∧ I64 s2) := ⟨⟨hn, hs⟩, hn2, hs2⟩
  clear hn hs hn2 hs2
  by_cases h : (soundS n s && soundS n2 s2) = true
  · have HR : addS n s n2 s2 = decS 6 (mag (unitsS n s + unitsS n2 s2)) (decide (unitsS n s + unitsS n2 s2 < 0)) := by unfold addS; rw [if_pos h]
    replace HR := Lib.hid HR
    have h' := h
    simp only [Bool.and_eq_true] at h'
    obtain ⟨b1, b2, b3, b4, _⟩ := sound_bd h'.1
    obtain ⟨d1, d2, d3, d4, _⟩ := sound_bd h'.2
    clear h'
    have u1 := (units_bd (s := s) b3 b4).resolve_right (by omega)
    have u2 := (units_bd (s := s2) d3 d4).resolve_right (by omega)
    have k1 : IntKind.i64.wrap (unitsS n s + unitsS n2 s2) = unitsS n s + unitsS n2 s2 := IntWalk.i64_in _ (by omega)
    obtain ⟨u1a, u1b⟩ := u1
    obtain ⟨u2a, u2b⟩ := u2
    by_cases hneg : unitsS n s + unitsS n2 s2 < 0
    · have HM : mag (unitsS n s + unitsS n2 s2) = -(unitsS n s + unitsS n2 s2) := by unfold mag; rw [if_pos hneg]
      replace HM := Lib.hid HM
      have HD : decide (unitsS n s + unitsS n2 s2 < 0) = true := by simpa using hneg
      replace HD := Lib.hid HD
      go_enter Tryd.func22, Tryd.ntmps22
      go_wp2_with fail
      refine (all_2 n s n2 s2 HN.out.1.1 HN.out.1.2 HN.out.2.1 HN.out.2.2 _ _ 23 _ (Blk.new' _ _ _ (by simp))).mono ?_
      rintro e w1 ⟨rfl, hb⟩
      replace hb0 := (hb0.alloc _).step hb
      replace hb2 := (hb2.alloc _).step hb
      replace hb1 := (hb1.alloc _).step hb
      rw [if_pos h]
      have c0 := hb0.cell 0
      have c1 := hb0.cell 1
      have e0 := hb2.cell 0
      have e1 := hb2.cell 1
      simp at c0 c1 e0 e1
      clear h
      go_wp2_with fail
      go_region_held3 (fun w' => (Blk w' (w.heap.size + 1 + 1) 23 #[.int .i64 0, .int .i64 0]) ∧ (w'.cell? ⟨w.heap.size, 0, none⟩ = some (.int .i64 n) ∧ w'.cell? ⟨w.heap.size, 1, none⟩ = some (.int .i64 s)) ∧ w'.cell? ⟨w.heap.size + 1, 0, none⟩ = some (.int .i64 n2) ∧ w'.cell? ⟨w.heap.size + 1, 1, none⟩ = some (.int .i64 s2)) ((go_split_ands; (repeat' apply And.intro) <;> first | assumption | exact keep1 (by assumption) (by assumption) | exact Blk.step (by assumption) (by assumption)))
        (first
          | (go_at_call 42; refine (units_lit _ _ (by assumption) (by assumption) (by assumption) (by assumption) _).mono ?_; rintro e w' ⟨rfl, hb'⟩))
      clear k1
      go_split_ands
      go_wp2_with fail
      refine (dec_any (-(unitsS n s + unitsS n2 s2)) 6 true (by omega) (by omega) (by omega) (by omega) _).mono ?_
      rintro e w5 ⟨rfl, hb5⟩
      have hr : Blk w5 (w.heap.size + 1 + 1) 23 #[.int .i64 0, .int .i64 0] := Blk.step (by assumption) hb5
      go_wp2_with (first | (refine wpList_store_blk hr rfl _ _ _ (by rfl) _ (by rfl) (by rfl) (by (repeat (first | (with_reducible exact hr) | (with_reducible refine Blk.alloc ?_ _) | (with_reducible refine Blk.drew ?_) | (with_reducible refine Blk.far ?_ (by first | (simp; done) | (simp; omega)) _) | (with_reducible refine Blk.turn ?_ (by with_reducible assumption) (by omega))))) (by rfl) (by kernel_rfl) (by simp [Value.oneCell']) ?_; intro wt hrn ht))
      refine ret_blk2 rfl hrn rfl Tryd.underlying23 rfl (by kernel_rfl) rfl ?_
      exact ⟨by rw [HR.out, HM.out, HD.out]; rfl, by (repeat' (first | (with_reducible exact Below.refl _ _) | (with_reducible assumption) | (with_reducible refine balloc ?_ _) | (with_reducible refine Below.drew ?_) | (with_reducible refine bset ?_ ?_ _) | (with_reducible refine bstep ?_ (by with_reducible assumption)) | (with_reducible refine bturn ?_ (by with_reducible assumption) ?_) | go_size))⟩
    · have HM : mag (unitsS n s + unitsS n2 s2) = (unitsS n s + unitsS n2 s2) := by unfold mag; rw [if_neg hneg]
      replace HM := Lib.hid HM
      go_enter Tryd.func22, Tryd.ntmps22
      go_wp2_with fail
      refine (all_2 n s n2 s2 HN.out.1.1 HN.out.1.2 HN.out.2.1 HN.out.2.2 _ _ 23 _ (Blk.new' _ _ _ (by simp))).mono ?_
      rintro e w1 ⟨rfl, hb⟩
      replace hb0 := (hb0.alloc _).step hb
      replace hb2 := (hb2.alloc _).step hb
      replace hb1 := (hb1.alloc _).step hb
      rw [if_pos h]
      have c0 := hb0.cell 0
      have c1 := hb0.cell 1
      have e0 := hb2.cell 0
      have e1 := hb2.cell 1
      simp at c0 c1 e0 e1
      clear h
      go_wp2_with fail
      go_region_held3 (fun w' => (Blk w' (w.heap.size + 1 + 1) 23 #[.int .i64 0, .int .i64 0]) ∧ (w'.cell? ⟨w.heap.size, 0, none⟩ = some (.int .i64 n) ∧ w'.cell? ⟨w.heap.size, 1, none⟩ = some (.int .i64 s)) ∧ w'.cell? ⟨w.heap.size + 1, 0, none⟩ = some (.int .i64 n2) ∧ w'.cell? ⟨w.heap.size + 1, 1, none⟩ = some (.int .i64 s2)) ((go_split_ands; (repeat' apply And.intro) <;> first | assumption | exact keep1 (by assumption) (by assumption) | exact Blk.step (by assumption) (by assumption)))
        (first
          | (go_at_call 42; refine (units_lit _ _ (by assumption) (by assumption) (by assumption) (by assumption) _).mono ?_; rintro e w' ⟨rfl, hb'⟩))
      clear k1
      go_split_ands
      go_wp2_with fail
      refine (dec_any (unitsS n s + unitsS n2 s2) 6 (decide (unitsS n s + unitsS n2 s2 < 0)) (by omega) (by omega) (by omega) (by omega) _).mono ?_
      rintro e w5 ⟨rfl, hb5⟩
      have hr : Blk w5 (w.heap.size + 1 + 1) 23 #[.int .i64 0, .int .i64 0] := Blk.step (by assumption) hb5
      go_wp2_with (first | (refine wpList_store_blk hr rfl _ _ _ (by rfl) _ (by rfl) (by rfl) (by (repeat (first | (with_reducible exact hr) | (with_reducible refine Blk.alloc ?_ _) | (with_reducible refine Blk.drew ?_) | (with_reducible refine Blk.far ?_ (by first | (simp; done) | (simp; omega)) _) | (with_reducible refine Blk.turn ?_ (by with_reducible assumption) (by omega))))) (by rfl) (by kernel_rfl) (by simp [Value.oneCell']) ?_; intro wt hrn ht))
      refine ret_blk2 rfl hrn rfl Tryd.underlying23 rfl (by kernel_rfl) rfl ?_
      exact ⟨by rw [HR.out, HM.out]; rfl, by (repeat' (first | (with_reducible exact Below.refl _ _) | (with_reducible assumption) | (with_reducible refine balloc ?_ _) | (with_reducible refine Below.drew ?_) | (with_reducible refine bset ?_ ?_ _) | (with_reducible refine bstep ?_ (by with_reducible assumption)) | (with_reducible refine bturn ?_ (by with_reducible assumption) ?_) | go_size))⟩
  · have HR : addS n s n2 s2 = ⟨0, 0, 2⟩ := by unfold addS; rw [if_neg h]
    replace HR := Lib.hid HR
    go_enter Tryd.func22, Tryd.ntmps22
    go_wp2_with fail
    refine (all_2 n s n2 s2 HN.out.1.1 HN.out.1.2 HN.out.2.1 HN.out.2.2 _ _ 23 _ (Blk.new' _ _ _ (by simp))).mono ?_
    rintro e w1 ⟨rfl, hb⟩
    replace hb1 := (hb1.alloc _).step hb
    rw [if_neg h]
    go_wp2_with (first | (refine wpList_store_blk hb1 rfl _ _ _ (by rfl) _ (by rfl) (by rfl) (by (repeat (first | (with_reducible exact hb1) | (with_reducible refine Blk.alloc ?_ _) | (with_reducible refine Blk.drew ?_) | (with_reducible refine Blk.far ?_ (by first | (simp; done) | (simp; omega)) _) | (with_reducible refine Blk.turn ?_ (by with_reducible assumption) (by omega))))) (by rfl) (by kernel_rfl) (by simp [Value.oneCell']) ?_; intro wt hb1n ht))
    refine ret_blk2 rfl hb1n rfl Tryd.underlying23 rfl (by kernel_rfl) rfl ?_
    exact ⟨by rw [HR.out]; rfl, by (repeat' (first | (with_reducible exact Below.refl _ _) | (with_reducible assumption) | (with_reducible refine balloc ?_ _) | (with_reducible refine Below.drew ?_) | (with_reducible refine bset ?_ ?_ _) | (with_reducible refine bstep ?_ (by with_reducible assumption)) | (with_reducible refine bturn ?_ (by with_reducible assumption) ?_) | go_size))⟩
end Go.Proofs.YteljkkfnnmikkaaDoor
