/- The walk of the program's Parse, at every text. -/
import Derived.Test.YtlmcjnekkhdmiaaDoorPdMath
set_option linter.unusedVariables false
set_option linter.unusedSimpArgs false
namespace Go.Proofs.YtlmcjnekkhdmiaaDoor
open Go.RowKit
open Go.Lib hiding intOf

/-- What the program cuts a text into. -/
structure CutUp (s r wh pa pt : ByteArray) (minus dot : Bool) : Prop where
  h1 : Lib.trimPrefix s.data.toList [45] = r.data.toList
  h2 : Lib.hasPrefix s.data.toList [45] = minus
  h3 : Lib.cut r.data.toList [46] = (wh.data.toList, pa.data.toList, dot)
  h4 : Lib.trimRightB pa.data.toList 48 = pt.data.toList
  s1 : r.size < 140737488351233
  s2 : wh.size ≤ 140737488351233
  s3 : pa.size ≤ 140737488351233
  s4 : pt.size ≤ 140737488351233

theorem digits_lit {s : ByteArray} {b : Bool} (hs : s.size ≤ 140737488351233) (h : digB s = b) (w : World) :
    Calls Tryd.prog 17 #[.string s] w fun e w' => e = .returned (.bool b) ∧ Below w.heap.size w w' := h ▸ digits_any s (by omega) w

set_option maxHeartbeats 2000000 in
set_option maxRecDepth 100000 in
theorem parse_A {s r wh pa pt : ByteArray} {minus dot : Bool} (H : CutUp s r wh pa pt minus dot) (hw : digB wh = false) (m : Int) (w : World) (hm : w.cell? ⟨1, 0, none⟩ = some (.int .i64 m)) :
    Calls Tryd.prog 6 #[.string s] w fun e w' => e = .returned (.tuple #[.agg #[.int .i64 (0), .int .i64 (0)], .int .i64 (5)]) ∧ Below w.heap.size w w' := by
  have hb1 := Blk.new w 23 #[.int .i64 0, .int .i64 0]
  have hm2 : (w.alloc (.cells #[.int .i64 0, .int .i64 0] 23)).cell? ⟨1, 0, none⟩ = some (.int .i64 m) := by exact (World.cell?_alloc_some w _ _ (by rw [hm]; rfl)).trans hm
  have HM := Lib.hid hm2
  have HPr := Lib.hid (fun w => prefix_lit s r minus w H.h1 H.h2)
  have HCu := Lib.hid (fun w hm => cut_lit r wh pa dot m w H.s1 hm H.h3)
  have s2 := H.s2
  have s3 := H.s3
  have s4 := H.s4
  have HRi := Lib.hid (fun w => right_lit pa pt w (by omega) H.h4)
  have HW := Lib.hid (fun w => digits_lit s2 hw w)
  clear hm hm2 H hw
  all_goals
    go_enter Tryd.func6, Tryd.ntmps6
    go_wp2_with fail
    refine (HPr.out _).mono ?_
    rintro e w1 ⟨rfl, rfl⟩
    go_wp2_with fail
    refine (HCu.out _ HM.out).mono ?_
    rintro e w2 ⟨rfl, hb2⟩
    replace hb1 := hb1.step hb2
    go_wp2_with fail
    refine (HW.out _).mono ?_
    rintro e w3 ⟨rfl, hb3⟩
    replace hb1 := hb1.step hb3
    go_wp2_with (refine wpList_store_blk hb1 rfl _ _ _ (by rfl) _ (by rfl) (by rfl) (by repeat first | with_reducible first | exact hb1 | apply Blk.alloc | apply Blk.drew | refine Blk.far ?_ (by simp <;> omega) _ | refine Blk.turn ?_ ‹_› (by omega)) (by rfl) (by kernel_rfl) (by simp [Value.oneCell']) ?_; intro wt hb1n ht)
    refine ret_blk2 rfl hb1n rfl Tryd.underlying23 rfl (by kernel_rfl) rfl ?_
    exact ⟨rfl, by (repeat' first | (with_reducible first | exact .refl _ _ | assumption | apply balloc | apply Below.drew | apply bset | refine bstep ?_ ‹_› | refine bturn ?_ ‹_› ?_) | go_size)⟩

set_option maxHeartbeats 2000000 in
set_option maxRecDepth 100000 in
theorem parse_B {s r wh pa pt : ByteArray} {minus dot : Bool} (H : CutUp s r wh pa pt minus dot) (hw : digB wh = true) (hd : dot = true) (hp : digB pa = false) (m : Int) (w : World) (hm : w.cell? ⟨1, 0, none⟩ = some (.int .i64 m)) :
    Calls Tryd.prog 6 #[.string s] w fun e w' => e = .returned (.tuple #[.agg #[.int .i64 (0), .int .i64 (0)], .int .i64 (5)]) ∧ Below w.heap.size w w' := by
  have hb1 := Blk.new w 23 #[.int .i64 0, .int .i64 0]
  have hm2 : (w.alloc (.cells #[.int .i64 0, .int .i64 0] 23)).cell? ⟨1, 0, none⟩ = some (.int .i64 m) := by exact (World.cell?_alloc_some w _ _ (by rw [hm]; rfl)).trans hm
  have HM := Lib.hid hm2
  have HPr := Lib.hid (fun w => prefix_lit s r minus w H.h1 H.h2)
  have HCu := Lib.hid (fun w hm => cut_lit r wh pa dot m w H.s1 hm H.h3)
  have s2 := H.s2
  have s3 := H.s3
  have s4 := H.s4
  have HRi := Lib.hid (fun w => right_lit pa pt w (by omega) H.h4)
  have HW := Lib.hid (fun w => digits_lit s2 hw w)
  have HP := Lib.hid (fun w => digits_lit s3 hp w)
  subst hd
  clear hm hm2 H hw hp
  all_goals
    go_enter Tryd.func6, Tryd.ntmps6
    go_wp2_with fail
    refine (HPr.out _).mono ?_
    rintro e w1 ⟨rfl, rfl⟩
    go_wp2_with fail
    refine (HCu.out _ HM.out).mono ?_
    rintro e w2 ⟨rfl, hb2⟩
    replace hb1 := hb1.step hb2
    go_wp2_with fail
    refine (HW.out _).mono ?_
    rintro e w3 ⟨rfl, hb3⟩
    replace hb1 := hb1.step hb3
    go_wp2_with fail
    refine (HP.out _).mono ?_
    rintro e w4 ⟨rfl, hb4⟩
    replace hb1 := hb1.step hb4
    go_wp2_with (refine wpList_store_blk hb1 rfl _ _ _ (by rfl) _ (by rfl) (by rfl) (by repeat first | with_reducible first | exact hb1 | apply Blk.alloc | apply Blk.drew | refine Blk.far ?_ (by simp <;> omega) _ | refine Blk.turn ?_ ‹_› (by omega)) (by rfl) (by kernel_rfl) (by simp [Value.oneCell']) ?_; intro wt hb1n ht)
    refine ret_blk2 rfl hb1n rfl Tryd.underlying23 rfl (by kernel_rfl) rfl ?_
    exact ⟨rfl, by (repeat' first | (with_reducible first | exact .refl _ _ | assumption | apply balloc | apply Below.drew | apply bset | refine bstep ?_ ‹_› | refine bturn ?_ ‹_› ?_) | go_size)⟩

set_option maxHeartbeats 2000000 in
set_option maxRecDepth 100000 in
theorem parse_C {s r wh pa pt : ByteArray} {minus dot : Bool} (H : CutUp s r wh pa pt minus dot) (hw : digB wh = true) (hp : dot = false ∨ dot = true ∧ digB pa = true) (hz : 1 < wh.size) (hz2 : (wh[0]'(by omega)).toNat = 48) (m : Int) (w : World) (hm : w.cell? ⟨1, 0, none⟩ = some (.int .i64 m)) :
    Calls Tryd.prog 6 #[.string s] w fun e w' => e = .returned (.tuple #[.agg #[.int .i64 (0), .int .i64 (0)], .int .i64 (5)]) ∧ Below w.heap.size w w' := by
  have hb1 := Blk.new w 23 #[.int .i64 0, .int .i64 0]
  have hm2 : (w.alloc (.cells #[.int .i64 0, .int .i64 0] 23)).cell? ⟨1, 0, none⟩ = some (.int .i64 m) := by exact (World.cell?_alloc_some w _ _ (by rw [hm]; rfl)).trans hm
  have HM := Lib.hid hm2
  have HPr := Lib.hid (fun w => prefix_lit s r minus w H.h1 H.h2)
  have HCu := Lib.hid (fun w hm => cut_lit r wh pa dot m w H.s1 hm H.h3)
  have s2 := H.s2
  have s3 := H.s3
  have s4 := H.s4
  have HRi := Lib.hid (fun w => right_lit pa pt w (by omega) H.h4)
  have HW := Lib.hid (fun w => digits_lit s2 hw w)
  have hz1 : (1 : Int) < (wh.size : Int) := by omega
  have hz3 : (((wh[0]'(by omega)).toNat : Nat) : Int) = 48 := by omega
  clear hm hm2 H hw hz2
  rcases hp with rfl | ⟨rfl, hp2⟩
  · go_enter Tryd.func6, Tryd.ntmps6
    go_wp2_with fail
    refine (HPr.out _).mono ?_
    rintro e w1 ⟨rfl, rfl⟩
    go_wp2_with fail
    refine (HCu.out _ HM.out).mono ?_
    rintro e w2 ⟨rfl, hb2⟩
    replace hb1 := hb1.step hb2
    go_wp2_with fail
    refine (HW.out _).mono ?_
    rintro e w3 ⟨rfl, hb3⟩
    replace hb1 := hb1.step hb3
    go_wp2_with (refine wpList_store_blk hb1 rfl _ _ _ (by rfl) _ (by rfl) (by rfl) (by repeat first | with_reducible first | exact hb1 | apply Blk.alloc | apply Blk.drew | refine Blk.far ?_ (by simp <;> omega) _ | refine Blk.turn ?_ ‹_› (by omega)) (by rfl) (by kernel_rfl) (by simp [Value.oneCell']) ?_; intro wt hb1n ht)
    refine ret_blk2 rfl hb1n rfl Tryd.underlying23 rfl (by kernel_rfl) rfl ?_
    exact ⟨rfl, by (repeat' first | (with_reducible first | exact .refl _ _ | assumption | apply balloc | apply Below.drew | apply bset | refine bstep ?_ ‹_› | refine bturn ?_ ‹_› ?_) | go_size)⟩
  · have HP := Lib.hid (fun w => digits_lit s3 hp2 w)
    clear hp2
    go_enter Tryd.func6, Tryd.ntmps6
    go_wp2_with fail
    refine (HPr.out _).mono ?_
    rintro e w1 ⟨rfl, rfl⟩
    go_wp2_with fail
    refine (HCu.out _ HM.out).mono ?_
    rintro e w2 ⟨rfl, hb2⟩
    replace hb1 := hb1.step hb2
    go_wp2_with fail
    refine (HW.out _).mono ?_
    rintro e w3 ⟨rfl, hb3⟩
    replace hb1 := hb1.step hb3
    go_wp2_with fail
    refine (HP.out _).mono ?_
    rintro e w4 ⟨rfl, hb4⟩
    replace hb1 := hb1.step hb4
    go_wp2_with (refine wpList_store_blk hb1 rfl _ _ _ (by rfl) _ (by rfl) (by rfl) (by repeat first | with_reducible first | exact hb1 | apply Blk.alloc | apply Blk.drew | refine Blk.far ?_ (by simp <;> omega) _ | refine Blk.turn ?_ ‹_› (by omega)) (by rfl) (by kernel_rfl) (by simp [Value.oneCell']) ?_; intro wt hb1n ht)
    refine ret_blk2 rfl hb1n rfl Tryd.underlying23 rfl (by kernel_rfl) rfl ?_
    exact ⟨rfl, by (repeat' first | (with_reducible first | exact .refl _ _ | assumption | apply balloc | apply Below.drew | apply bset | refine bstep ?_ ‹_› | refine bturn ?_ ‹_› ?_) | go_size)⟩

set_option maxHeartbeats 2000000 in
set_option maxRecDepth 100000 in
theorem parse_Do {s r wh pa pt : ByteArray} {minus dot : Bool} (H : CutUp s r wh pa pt minus dot) (hw : digB wh = true) (hp : dot = false ∨ dot = true ∧ digB pa = true) (hz : ¬ 1 < wh.size) (hl : 6 < pt.size) (m : Int) (w : World) (hm : w.cell? ⟨1, 0, none⟩ = some (.int .i64 m)) :
    Calls Tryd.prog 6 #[.string s] w fun e w' => e = .returned (.tuple #[.agg #[.int .i64 (0), .int .i64 (0)], .int .i64 (3)]) ∧ Below w.heap.size w w' := by
  have hb1 := Blk.new w 23 #[.int .i64 0, .int .i64 0]
  have hm2 : (w.alloc (.cells #[.int .i64 0, .int .i64 0] 23)).cell? ⟨1, 0, none⟩ = some (.int .i64 m) := by exact (World.cell?_alloc_some w _ _ (by rw [hm]; rfl)).trans hm
  have HM := Lib.hid hm2
  have HPr := Lib.hid (fun w => prefix_lit s r minus w H.h1 H.h2)
  have HCu := Lib.hid (fun w hm => cut_lit r wh pa dot m w H.s1 hm H.h3)
  have s2 := H.s2
  have s3 := H.s3
  have s4 := H.s4
  have HRi := Lib.hid (fun w => right_lit pa pt w (by omega) H.h4)
  have HW := Lib.hid (fun w => digits_lit s2 hw w)
  have hz1 : ¬ (1 : Int) < (wh.size : Int) := by omega
  have hl1 : (6 : Int) < (pt.size : Int) := by omega
  clear hm hm2 H hw 
  rcases hp with rfl | ⟨rfl, hp2⟩
  · go_enter Tryd.func6, Tryd.ntmps6
    go_wp2_with fail
    refine (HPr.out _).mono ?_
    rintro e w1 ⟨rfl, rfl⟩
    go_wp2_with fail
    refine (HCu.out _ HM.out).mono ?_
    rintro e w2 ⟨rfl, hb2⟩
    replace hb1 := hb1.step hb2
    go_wp2_with fail
    refine (HW.out _).mono ?_
    rintro e w3 ⟨rfl, hb3⟩
    replace hb1 := hb1.step hb3
    go_wp2_with fail
    refine (HRi.out _).mono ?_
    rintro e w5 ⟨rfl, rfl⟩
    go_wp2_with (refine wpList_store_blk hb1 rfl _ _ _ (by rfl) _ (by rfl) (by rfl) (by repeat first | with_reducible first | exact hb1 | apply Blk.alloc | apply Blk.drew | refine Blk.far ?_ (by simp <;> omega) _ | refine Blk.turn ?_ ‹_› (by omega)) (by rfl) (by kernel_rfl) (by simp [Value.oneCell']) ?_; intro wt hb1n ht)
    refine ret_blk2 rfl hb1n rfl Tryd.underlying23 rfl (by kernel_rfl) rfl ?_
    exact ⟨rfl, by (repeat' first | (with_reducible first | exact .refl _ _ | assumption | apply balloc | apply Below.drew | apply bset | refine bstep ?_ ‹_› | refine bturn ?_ ‹_› ?_) | go_size)⟩
  · have HP := Lib.hid (fun w => digits_lit s3 hp2 w)
    clear hp2
    go_enter Tryd.func6, Tryd.ntmps6
    go_wp2_with fail
    refine (HPr.out _).mono ?_
    rintro e w1 ⟨rfl, rfl⟩
    go_wp2_with fail
    refine (HCu.out _ HM.out).mono ?_
    rintro e w2 ⟨rfl, hb2⟩
    replace hb1 := hb1.step hb2
    go_wp2_with fail
    refine (HW.out _).mono ?_
    rintro e w3 ⟨rfl, hb3⟩
    replace hb1 := hb1.step hb3
    go_wp2_with fail
    refine (HP.out _).mono ?_
    rintro e w4 ⟨rfl, hb4⟩
    replace hb1 := hb1.step hb4
    go_wp2_with fail
    refine (HRi.out _).mono ?_
    rintro e w5 ⟨rfl, rfl⟩
    go_wp2_with (refine wpList_store_blk hb1 rfl _ _ _ (by rfl) _ (by rfl) (by rfl) (by repeat first | with_reducible first | exact hb1 | apply Blk.alloc | apply Blk.drew | refine Blk.far ?_ (by simp <;> omega) _ | refine Blk.turn ?_ ‹_› (by omega)) (by rfl) (by kernel_rfl) (by simp [Value.oneCell']) ?_; intro wt hb1n ht)
    refine ret_blk2 rfl hb1n rfl Tryd.underlying23 rfl (by kernel_rfl) rfl ?_
    exact ⟨rfl, by (repeat' first | (with_reducible first | exact .refl _ _ | assumption | apply balloc | apply Below.drew | apply bset | refine bstep ?_ ‹_› | refine bturn ?_ ‹_› ?_) | go_size)⟩

set_option maxHeartbeats 2000000 in
set_option maxRecDepth 100000 in
theorem parse_Fo {s r wh pa pt : ByteArray} {minus dot : Bool} (H : CutUp s r wh pa pt minus dot) (hw : digB wh = true) (hp : dot = false ∨ dot = true ∧ digB pa = true) (hz : ¬ 1 < wh.size) (hl : pt.size ≤ 6) (hl2 : wh.size ≤ 12) (u : Nat) (hu : Lib.parseUintB 64 (wh ++ pt).data.toList = .ok u) (hu64 : u < 18446744073709551616) (m : Int) (w : World) (hm : w.cell? ⟨1, 0, none⟩ = some (.int .i64 m)) :
    Calls Tryd.prog 6 #[.string s] w fun e w' => e = .returned (.tuple #[.agg #[.int .i64 ((decS pt.size u minus).n), .int .i64 ((decS pt.size u minus).s)], .int .i64 ((decS pt.size u minus).e)]) ∧ Below w.heap.size w w' := by
  have hb1 := Blk.new w 23 #[.int .i64 0, .int .i64 0]
  have hm2 : (w.alloc (.cells #[.int .i64 0, .int .i64 0] 23)).cell? ⟨1, 0, none⟩ = some (.int .i64 m) := by exact (World.cell?_alloc_some w _ _ (by rw [hm]; rfl)).trans hm
  have HM := Lib.hid hm2
  have HPr := Lib.hid (fun w => prefix_lit s r minus w H.h1 H.h2)
  have HCu := Lib.hid (fun w hm => cut_lit r wh pa dot m w H.s1 hm H.h3)
  have s2 := H.s2
  have s3 := H.s3
  have s4 := H.s4
  have HRi := Lib.hid (fun w => right_lit pa pt w (by omega) H.h4)
  have HW := Lib.hid (fun w => digits_lit s2 hw w)
  have hz1 : ¬ (1 : Int) < (wh.size : Int) := by omega
  have hl1 : ¬ (6 : Int) < (pt.size : Int) := by omega
  have hl3 : ¬ (12 : Int) < (wh.size : Int) := by omega
  have HU := Lib.hid (fun w => uint_lit (wh ++ pt) u w (by rw [ByteArray.size_append]; omega) hu)
  have HDc := Lib.hid (fun w => dec_any (u : Int) (pt.size : Int) minus (by omega) (by omega) (by omega) (by omega) w)
  simp only [Int.toNat_natCast] at HDc
  clear hm hm2 H hw  hu
  rcases hp with rfl | ⟨rfl, hp2⟩
  · go_enter Tryd.func6, Tryd.ntmps6
    go_wp2_with fail
    refine (HPr.out _).mono ?_
    rintro e w1 ⟨rfl, rfl⟩
    go_wp2_with fail
    refine (HCu.out _ HM.out).mono ?_
    rintro e w2 ⟨rfl, hb2⟩
    replace hb1 := hb1.step hb2
    go_wp2_with fail
    refine (HW.out _).mono ?_
    rintro e w3 ⟨rfl, hb3⟩
    replace hb1 := hb1.step hb3
    go_wp2_with fail
    refine (HRi.out _).mono ?_
    rintro e w5 ⟨rfl, rfl⟩
    go_wp2_with fail
    refine (HU.out _).mono ?_
    rintro e w6 ⟨rfl, hb6⟩
    replace hb1 := hb1.step hb6
    go_wp2_with fail
    refine (HDc.out _).mono ?_
    rintro e w7 ⟨rfl, hb7⟩
    replace hb1 := hb1.step hb7
    go_wp2_with (refine wpList_store_blk hb1 rfl _ _ _ (by rfl) _ (by rfl) (by rfl) (by repeat first | with_reducible first | exact hb1 | apply Blk.alloc | apply Blk.drew | refine Blk.far ?_ (by simp <;> omega) _ | refine Blk.turn ?_ ‹_› (by omega)) (by rfl) (by kernel_rfl) (by simp [Value.oneCell']) ?_; intro wt hb1n ht)
    refine ret_blk2 rfl hb1n rfl Tryd.underlying23 rfl (by kernel_rfl) rfl ?_
    exact ⟨rfl, by (repeat' first | (with_reducible first | exact .refl _ _ | assumption | apply balloc | apply Below.drew | apply bset | refine bstep ?_ ‹_› | refine bturn ?_ ‹_› ?_) | go_size)⟩
  · have HP := Lib.hid (fun w => digits_lit s3 hp2 w)
    clear hp2
    go_enter Tryd.func6, Tryd.ntmps6
    go_wp2_with fail
    refine (HPr.out _).mono ?_
    rintro e w1 ⟨rfl, rfl⟩
    go_wp2_with fail
    refine (HCu.out _ HM.out).mono ?_
    rintro e w2 ⟨rfl, hb2⟩
    replace hb1 := hb1.step hb2
    go_wp2_with fail
    refine (HW.out _).mono ?_
    rintro e w3 ⟨rfl, hb3⟩
    replace hb1 := hb1.step hb3
    go_wp2_with fail
    refine (HP.out _).mono ?_
    rintro e w4 ⟨rfl, hb4⟩
    replace hb1 := hb1.step hb4
    go_wp2_with fail
    refine (HRi.out _).mono ?_
    rintro e w5 ⟨rfl, rfl⟩
    go_wp2_with fail
    refine (HU.out _).mono ?_
    rintro e w6 ⟨rfl, hb6⟩
    replace hb1 := hb1.step hb6
    go_wp2_with fail
    refine (HDc.out _).mono ?_
    rintro e w7 ⟨rfl, hb7⟩
    replace hb1 := hb1.step hb7
    go_wp2_with (refine wpList_store_blk hb1 rfl _ _ _ (by rfl) _ (by rfl) (by rfl) (by repeat first | with_reducible first | exact hb1 | apply Blk.alloc | apply Blk.drew | refine Blk.far ?_ (by simp <;> omega) _ | refine Blk.turn ?_ ‹_› (by omega)) (by rfl) (by kernel_rfl) (by simp [Value.oneCell']) ?_; intro wt hb1n ht)
    refine ret_blk2 rfl hb1n rfl Tryd.underlying23 rfl (by kernel_rfl) rfl ?_
    exact ⟨rfl, by (repeat' first | (with_reducible first | exact .refl _ _ | assumption | apply balloc | apply Below.drew | apply bset | refine bstep ?_ ‹_› | refine bturn ?_ ‹_› ?_) | go_size)⟩

set_option maxHeartbeats 2000000 in
set_option maxRecDepth 100000 in
theorem parse_Dt {s r wh pa pt : ByteArray} {minus dot : Bool} (H : CutUp s r wh pa pt minus dot) (hw : digB wh = true) (hp : dot = false ∨ dot = true ∧ digB pa = true) (hz : 1 < wh.size) (hz2 : ¬ (wh[0]'(by omega)).toNat = 48) (hl : 6 < pt.size) (m : Int) (w : World) (hm : w.cell? ⟨1, 0, none⟩ = some (.int .i64 m)) :
    Calls Tryd.prog 6 #[.string s] w fun e w' => e = .returned (.tuple #[.agg #[.int .i64 (0), .int .i64 (0)], .int .i64 (3)]) ∧ Below w.heap.size w w' := by
  have hb1 := Blk.new w 23 #[.int .i64 0, .int .i64 0]
  have hm2 : (w.alloc (.cells #[.int .i64 0, .int .i64 0] 23)).cell? ⟨1, 0, none⟩ = some (.int .i64 m) := by exact (World.cell?_alloc_some w _ _ (by rw [hm]; rfl)).trans hm
  have HM := Lib.hid hm2
  have HPr := Lib.hid (fun w => prefix_lit s r minus w H.h1 H.h2)
  have HCu := Lib.hid (fun w hm => cut_lit r wh pa dot m w H.s1 hm H.h3)
  have s2 := H.s2
  have s3 := H.s3
  have s4 := H.s4
  have HRi := Lib.hid (fun w => right_lit pa pt w (by omega) H.h4)
  have HW := Lib.hid (fun w => digits_lit s2 hw w)
  have hz1 : (1 : Int) < (wh.size : Int) := by omega
  have hz3 : ¬ (((wh[0]'(by omega)).toNat : Nat) : Int) = 48 := by omega
  have hl1 : (6 : Int) < (pt.size : Int) := by omega
  clear hm hm2 H hw hz2
  rcases hp with rfl | ⟨rfl, hp2⟩
  · go_enter Tryd.func6, Tryd.ntmps6
    go_wp2_with fail
    refine (HPr.out _).mono ?_
    rintro e w1 ⟨rfl, rfl⟩
    go_wp2_with fail
    refine (HCu.out _ HM.out).mono ?_
    rintro e w2 ⟨rfl, hb2⟩
    replace hb1 := hb1.step hb2
    go_wp2_with fail
    refine (HW.out _).mono ?_
    rintro e w3 ⟨rfl, hb3⟩
    replace hb1 := hb1.step hb3
    go_wp2_with fail
    refine (HRi.out _).mono ?_
    rintro e w5 ⟨rfl, rfl⟩
    go_wp2_with (refine wpList_store_blk hb1 rfl _ _ _ (by rfl) _ (by rfl) (by rfl) (by repeat first | with_reducible first | exact hb1 | apply Blk.alloc | apply Blk.drew | refine Blk.far ?_ (by simp <;> omega) _ | refine Blk.turn ?_ ‹_› (by omega)) (by rfl) (by kernel_rfl) (by simp [Value.oneCell']) ?_; intro wt hb1n ht)
    refine ret_blk2 rfl hb1n rfl Tryd.underlying23 rfl (by kernel_rfl) rfl ?_
    exact ⟨rfl, by (repeat' first | (with_reducible first | exact .refl _ _ | assumption | apply balloc | apply Below.drew | apply bset | refine bstep ?_ ‹_› | refine bturn ?_ ‹_› ?_) | go_size)⟩
  · have HP := Lib.hid (fun w => digits_lit s3 hp2 w)
    clear hp2
    go_enter Tryd.func6, Tryd.ntmps6
    go_wp2_with fail
    refine (HPr.out _).mono ?_
    rintro e w1 ⟨rfl, rfl⟩
    go_wp2_with fail
    refine (HCu.out _ HM.out).mono ?_
    rintro e w2 ⟨rfl, hb2⟩
    replace hb1 := hb1.step hb2
    go_wp2_with fail
    refine (HW.out _).mono ?_
    rintro e w3 ⟨rfl, hb3⟩
    replace hb1 := hb1.step hb3
    go_wp2_with fail
    refine (HP.out _).mono ?_
    rintro e w4 ⟨rfl, hb4⟩
    replace hb1 := hb1.step hb4
    go_wp2_with fail
    refine (HRi.out _).mono ?_
    rintro e w5 ⟨rfl, rfl⟩
    go_wp2_with (refine wpList_store_blk hb1 rfl _ _ _ (by rfl) _ (by rfl) (by rfl) (by repeat first | with_reducible first | exact hb1 | apply Blk.alloc | apply Blk.drew | refine Blk.far ?_ (by simp <;> omega) _ | refine Blk.turn ?_ ‹_› (by omega)) (by rfl) (by kernel_rfl) (by simp [Value.oneCell']) ?_; intro wt hb1n ht)
    refine ret_blk2 rfl hb1n rfl Tryd.underlying23 rfl (by kernel_rfl) rfl ?_
    exact ⟨rfl, by (repeat' first | (with_reducible first | exact .refl _ _ | assumption | apply balloc | apply Below.drew | apply bset | refine bstep ?_ ‹_› | refine bturn ?_ ‹_› ?_) | go_size)⟩

set_option maxHeartbeats 2000000 in
set_option maxRecDepth 100000 in
theorem parse_Et {s r wh pa pt : ByteArray} {minus dot : Bool} (H : CutUp s r wh pa pt minus dot) (hw : digB wh = true) (hp : dot = false ∨ dot = true ∧ digB pa = true) (hz : 1 < wh.size) (hz2 : ¬ (wh[0]'(by omega)).toNat = 48) (hl : pt.size ≤ 6) (hl2 : 12 < wh.size) (m : Int) (w : World) (hm : w.cell? ⟨1, 0, none⟩ = some (.int .i64 m)) :
    Calls Tryd.prog 6 #[.string s] w fun e w' => e = .returned (.tuple #[.agg #[.int .i64 (0), .int .i64 (0)], .int .i64 (3)]) ∧ Below w.heap.size w w' := by
  have hb1 := Blk.new w 23 #[.int .i64 0, .int .i64 0]
  have hm2 : (w.alloc (.cells #[.int .i64 0, .int .i64 0] 23)).cell? ⟨1, 0, none⟩ = some (.int .i64 m) := by exact (World.cell?_alloc_some w _ _ (by rw [hm]; rfl)).trans hm
  have HM := Lib.hid hm2
  have HPr := Lib.hid (fun w => prefix_lit s r minus w H.h1 H.h2)
  have HCu := Lib.hid (fun w hm => cut_lit r wh pa dot m w H.s1 hm H.h3)
  have s2 := H.s2
  have s3 := H.s3
  have s4 := H.s4
  have HRi := Lib.hid (fun w => right_lit pa pt w (by omega) H.h4)
  have HW := Lib.hid (fun w => digits_lit s2 hw w)
  have hz1 : (1 : Int) < (wh.size : Int) := by omega
  have hz3 : ¬ (((wh[0]'(by omega)).toNat : Nat) : Int) = 48 := by omega
  have hl1 : ¬ (6 : Int) < (pt.size : Int) := by omega
  have hl3 : (12 : Int) < (wh.size : Int) := by omega
  clear hm hm2 H hw hz2
  rcases hp with rfl | ⟨rfl, hp2⟩
  · go_enter Tryd.func6, Tryd.ntmps6
    go_wp2_with fail
    refine (HPr.out _).mono ?_
    rintro e w1 ⟨rfl, rfl⟩
    go_wp2_with fail
    refine (HCu.out _ HM.out).mono ?_
    rintro e w2 ⟨rfl, hb2⟩
    replace hb1 := hb1.step hb2
    go_wp2_with fail
    refine (HW.out _).mono ?_
    rintro e w3 ⟨rfl, hb3⟩
    replace hb1 := hb1.step hb3
    go_wp2_with fail
    refine (HRi.out _).mono ?_
    rintro e w5 ⟨rfl, rfl⟩
    go_wp2_with (refine wpList_store_blk hb1 rfl _ _ _ (by rfl) _ (by rfl) (by rfl) (by repeat first | with_reducible first | exact hb1 | apply Blk.alloc | apply Blk.drew | refine Blk.far ?_ (by simp <;> omega) _ | refine Blk.turn ?_ ‹_› (by omega)) (by rfl) (by kernel_rfl) (by simp [Value.oneCell']) ?_; intro wt hb1n ht)
    refine ret_blk2 rfl hb1n rfl Tryd.underlying23 rfl (by kernel_rfl) rfl ?_
    exact ⟨rfl, by (repeat' first | (with_reducible first | exact .refl _ _ | assumption | apply balloc | apply Below.drew | apply bset | refine bstep ?_ ‹_› | refine bturn ?_ ‹_› ?_) | go_size)⟩
  · have HP := Lib.hid (fun w => digits_lit s3 hp2 w)
    clear hp2
    go_enter Tryd.func6, Tryd.ntmps6
    go_wp2_with fail
    refine (HPr.out _).mono ?_
    rintro e w1 ⟨rfl, rfl⟩
    go_wp2_with fail
    refine (HCu.out _ HM.out).mono ?_
    rintro e w2 ⟨rfl, hb2⟩
    replace hb1 := hb1.step hb2
    go_wp2_with fail
    refine (HW.out _).mono ?_
    rintro e w3 ⟨rfl, hb3⟩
    replace hb1 := hb1.step hb3
    go_wp2_with fail
    refine (HP.out _).mono ?_
    rintro e w4 ⟨rfl, hb4⟩
    replace hb1 := hb1.step hb4
    go_wp2_with fail
    refine (HRi.out _).mono ?_
    rintro e w5 ⟨rfl, rfl⟩
    go_wp2_with (refine wpList_store_blk hb1 rfl _ _ _ (by rfl) _ (by rfl) (by rfl) (by repeat first | with_reducible first | exact hb1 | apply Blk.alloc | apply Blk.drew | refine Blk.far ?_ (by simp <;> omega) _ | refine Blk.turn ?_ ‹_› (by omega)) (by rfl) (by kernel_rfl) (by simp [Value.oneCell']) ?_; intro wt hb1n ht)
    refine ret_blk2 rfl hb1n rfl Tryd.underlying23 rfl (by kernel_rfl) rfl ?_
    exact ⟨rfl, by (repeat' first | (with_reducible first | exact .refl _ _ | assumption | apply balloc | apply Below.drew | apply bset | refine bstep ?_ ‹_› | refine bturn ?_ ‹_› ?_) | go_size)⟩

set_option maxHeartbeats 2000000 in
set_option maxRecDepth 100000 in
theorem parse_Ft {s r wh pa pt : ByteArray} {minus dot : Bool} (H : CutUp s r wh pa pt minus dot) (hw : digB wh = true) (hp : dot = false ∨ dot = true ∧ digB pa = true) (hz : 1 < wh.size) (hz2 : ¬ (wh[0]'(by omega)).toNat = 48) (hl : pt.size ≤ 6) (hl2 : wh.size ≤ 12) (u : Nat) (hu : Lib.parseUintB 64 (wh ++ pt).data.toList = .ok u) (hu64 : u < 18446744073709551616) (m : Int) (w : World) (hm : w.cell? ⟨1, 0, none⟩ = some (.int .i64 m)) :
    Calls Tryd.prog 6 #[.string s] w fun e w' => e = .returned (.tuple #[.agg #[.int .i64 ((decS pt.size u minus).n), .int .i64 ((decS pt.size u minus).s)], .int .i64 ((decS pt.size u minus).e)]) ∧ Below w.heap.size w w' := by
  have hb1 := Blk.new w 23 #[.int .i64 0, .int .i64 0]
  have hm2 : (w.alloc (.cells #[.int .i64 0, .int .i64 0] 23)).cell? ⟨1, 0, none⟩ = some (.int .i64 m) := by exact (World.cell?_alloc_some w _ _ (by rw [hm]; rfl)).trans hm
  have HM := Lib.hid hm2
  have HPr := Lib.hid (fun w => prefix_lit s r minus w H.h1 H.h2)
  have HCu := Lib.hid (fun w hm => cut_lit r wh pa dot m w H.s1 hm H.h3)
  have s2 := H.s2
  have s3 := H.s3
  have s4 := H.s4
  have HRi := Lib.hid (fun w => right_lit pa pt w (by omega) H.h4)
  have HW := Lib.hid (fun w => digits_lit s2 hw w)
  have hz1 : (1 : Int) < (wh.size : Int) := by omega
  have hz3 : ¬ (((wh[0]'(by omega)).toNat : Nat) : Int) = 48 := by omega
  have hl1 : ¬ (6 : Int) < (pt.size : Int) := by omega
  have hl3 : ¬ (12 : Int) < (wh.size : Int) := by omega
  have HU := Lib.hid (fun w => uint_lit (wh ++ pt) u w (by rw [ByteArray.size_append]; omega) hu)
  have HDc := Lib.hid (fun w => dec_any (u : Int) (pt.size : Int) minus (by omega) (by omega) (by omega) (by omega) w)
  simp only [Int.toNat_natCast] at HDc
  clear hm hm2 H hw hz2 hu
  rcases hp with rfl | ⟨rfl, hp2⟩
  · go_enter Tryd.func6, Tryd.ntmps6
    go_wp2_with fail
    refine (HPr.out _).mono ?_
    rintro e w1 ⟨rfl, rfl⟩
    go_wp2_with fail
    refine (HCu.out _ HM.out).mono ?_
    rintro e w2 ⟨rfl, hb2⟩
    replace hb1 := hb1.step hb2
    go_wp2_with fail
    refine (HW.out _).mono ?_
    rintro e w3 ⟨rfl, hb3⟩
    replace hb1 := hb1.step hb3
    go_wp2_with fail
    refine (HRi.out _).mono ?_
    rintro e w5 ⟨rfl, rfl⟩
    go_wp2_with fail
    refine (HU.out _).mono ?_
    rintro e w6 ⟨rfl, hb6⟩
    replace hb1 := hb1.step hb6
    go_wp2_with fail
    refine (HDc.out _).mono ?_
    rintro e w7 ⟨rfl, hb7⟩
    replace hb1 := hb1.step hb7
    go_wp2_with (refine wpList_store_blk hb1 rfl _ _ _ (by rfl) _ (by rfl) (by rfl) (by repeat first | with_reducible first | exact hb1 | apply Blk.alloc | apply Blk.drew | refine Blk.far ?_ (by simp <;> omega) _ | refine Blk.turn ?_ ‹_› (by omega)) (by rfl) (by kernel_rfl) (by simp [Value.oneCell']) ?_; intro wt hb1n ht)
    refine ret_blk2 rfl hb1n rfl Tryd.underlying23 rfl (by kernel_rfl) rfl ?_
    exact ⟨rfl, by (repeat' first | (with_reducible first | exact .refl _ _ | assumption | apply balloc | apply Below.drew | apply bset | refine bstep ?_ ‹_› | refine bturn ?_ ‹_› ?_) | go_size)⟩
  · have HP := Lib.hid (fun w => digits_lit s3 hp2 w)
    clear hp2
    go_enter Tryd.func6, Tryd.ntmps6
    go_wp2_with fail
    refine (HPr.out _).mono ?_
    rintro e w1 ⟨rfl, rfl⟩
    go_wp2_with fail
    refine (HCu.out _ HM.out).mono ?_
    rintro e w2 ⟨rfl, hb2⟩
    replace hb1 := hb1.step hb2
    go_wp2_with fail
    refine (HW.out _).mono ?_
    rintro e w3 ⟨rfl, hb3⟩
    replace hb1 := hb1.step hb3
    go_wp2_with fail
    refine (HP.out _).mono ?_
    rintro e w4 ⟨rfl, hb4⟩
    replace hb1 := hb1.step hb4
    go_wp2_with fail
    refine (HRi.out _).mono ?_
    rintro e w5 ⟨rfl, rfl⟩
    go_wp2_with fail
    refine (HU.out _).mono ?_
    rintro e w6 ⟨rfl, hb6⟩
    replace hb1 := hb1.step hb6
    go_wp2_with fail
    refine (HDc.out _).mono ?_
    rintro e w7 ⟨rfl, hb7⟩
    replace hb1 := hb1.step hb7
    go_wp2_with (refine wpList_store_blk hb1 rfl _ _ _ (by rfl) _ (by rfl) (by rfl) (by repeat first | with_reducible first | exact hb1 | apply Blk.alloc | apply Blk.drew | refine Blk.far ?_ (by simp <;> omega) _ | refine Blk.turn ?_ ‹_› (by omega)) (by rfl) (by kernel_rfl) (by simp [Value.oneCell']) ?_; intro wt hb1n ht)
    refine ret_blk2 rfl hb1n rfl Tryd.underlying23 rfl (by kernel_rfl) rfl ?_
    exact ⟨rfl, by (repeat' first | (with_reducible first | exact .refl _ _ | assumption | apply balloc | apply Below.drew | apply bset | refine bstep ?_ ‹_› | refine bturn ?_ ‹_› ?_) | go_size)⟩
end Go.Proofs.YtlmcjnekkhdmiaaDoor
