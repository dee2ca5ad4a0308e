/- The walk of the reference's Text. The walk of the program's Parse, at every text. The walk of Text at 12.5. The walk of the program's Text. Plain laws: what is written is read as it was; the units of a sum. Reading a text: both sides read alike. The walk of DeciTexts. Plain arithmetic of days: no program in sight. The walks of package days: Leap, length, first, Day, Date. The walks of package days: Day, Date. The walks of the reference of package days: years, Length, Day, Date. Plain laws of the texts of days: digits with leading noughts, split and read. No program in sight. The walks of package days: pad, Text. The walks of the reference of package days: Number, padded, Text. The walk of package days: Parse. What every law of package days calls (awake), and the walks of DaysLeap and DaysDay. The walk of the reference's Parse of days. The walk of DaysBack. -/
import Derived.Test.YtkkeplmaphcblaaGreatDoorJ4
import Derived.Test.YtkkeplmaphcblaaGreatDoorJ1
import Derived.Deep.LoopGhost
import Derived.Lib.ItoaNum
import Derived.Lib.Split
import Derived.Lib.SplitLaws
import Derived.Lib.Atoi
import Derived.Lib.SlTrimSet
import Derived.Lib.AppendIntMem
import Derived.Test.YtkkeplmaphcblaaGreatDoorJ2
import Derived.Shelf.Strings.SlTrimAscii
import Derived.Lib.AtoiErrMem
namespace Go.Proofs.YtkkeplmaphcblaaGreatDoor
open Go.RowKit
open Go.Lib hiding intOf
attribute [local go_sem high] run_dec_eql run_dec_neq

theorem digit_string (x : Int) (d : Nat) (hx : x = ((48 + d : Nat) : Int)) (hd : d < 10) (W : World) :
    (convert 93 9 (.slice (some ⟨W.heap.size, 0, none⟩) 1 1)).run Tryz.prog (W.alloc (.cells #[.int .u8 x] 5)) = .ok (.string ⟨#[UInt8.ofNat (48 + d)]⟩) (W.alloc (.cells #[.int .u8 x] 5)) := by
  subst hx
  have h := run_convert_bytes_back (P := Tryz.prog) (W.alloc (.cells #[.int .u8 ((48 + d : Nat) : Int)] 5)) 93 9 5 ⟨W.heap.size, 0, none⟩ 1 [UInt8.ofNat (48 + d)] Tryz.underlying93 Tryz.underlying5 Tryz.underlying9 (fun j hj => by
    obtain rfl : j = 0 := by simp at hj; omega
    show (W.alloc _).cell? _ = some (.int .u8 (((UInt8.ofNat (48 + d)).toNat : Nat) : Int))
    rw [dig_ofNat hd, Lib.add_plain]
    exact (Blk.new W _ _).cell 0)
  exact h

/-- The digits of the whole part, before what stands behind them. -/
def wholeT (M k : Nat) (tail : List UInt8) : ByteArray := ⟨(pd k M ++ tail).toArray⟩

end Go.Proofs.YtkkeplmaphcblaaGreatDoor

namespace Go.Proofs.YtkkeplmaphcblaaGreatDoor
open Go.RowKit
open Go.Lib hiding intOf

/-- What the program cuts a text into. -/
structure CutUp (s r wh pa pt : ByteArray) (minus dot : Bool) : Prop where
  h1 : Lib.trimPrefix s.data.toList [45] = r.data.toList
  h2 : Lib.hasPrefix s.data.toList [45] = minus
  h3 : Lib.cut r.data.toList [46] = (wh.data.toList, pa.data.toList, dot)
  h4 : Lib.trimRightB pa.data.toList 48 = pt.data.toList
  s1 : r.size < 4294967281
  s2 : wh.size ≤ 4294967281
  s3 : pa.size ≤ 4294967281
  s4 : pt.size ≤ 4294967281

theorem digits_lit {s : ByteArray} {b : Bool} (hs : s.size ≤ 4294967281) (h : digB s = b) (w : World) :
    Calls Tryz.prog 224 #[.string s] w fun e w' => e = .returned (.bool b) ∧ Below w.heap.size w w' := h ▸ digits_any s (by omega) w

set_option maxHeartbeats 2000000 in
set_option maxRecDepth 100000 in
theorem parse_A {s r wh pa pt : ByteArray} {minus dot : Bool} (H : CutUp s r wh pa pt minus dot) (hw : digB wh = false) (m : Int) (w : World) (hm : w.cell? ⟨1, 0, none⟩ = some (.int .i64 m)) :
    Calls Tryz.prog 201 #[.string s] w fun e w' => e = .returned (.tuple #[.agg #[.int .i64 (0), .int .i64 (0)], .int .i64 (5)]) ∧ Below w.heap.size w w' := by
  have hb1 := Blk.new w 23 #[.int .i64 0, .int .i64 0]
  have hm2 : (w.alloc (.cells #[.int .i64 0, .int .i64 0] 23)).cell? ⟨1, 0, none⟩ = some (.int .i64 m) := by exact (World.cell?_alloc_some w _ _ (by rw [hm]; rfl)).trans hm
  have HM := Lib.hid hm2
  have HPr := Lib.hid (fun w => prefix_lit s r minus w H.h1 H.h2)
  have HCu := Lib.hid (fun w hm => cut_lit r wh pa dot m w H.s1 hm H.h3)
  have s2 := H.s2
  have s3 := H.s3
  have s4 := H.s4
  have HRi := Lib.hid (fun w => right_lit pa pt w (by omega) H.h4)
  have HW := Lib.hid (fun w => digits_lit s2 hw w)
  clear hm hm2 H hw
  all_goals
    go_enter Tryz.func201, Tryz.ntmps201
    go_wp2_with fail
    refine (HPr.out _).mono ?_
    rintro e w1 ⟨rfl, rfl⟩
    go_wp2_with fail
    refine (HCu.out _ HM.out).mono ?_
    rintro e w2 ⟨rfl, hb2⟩
    replace hb1 := hb1.step hb2
    go_wp2_with fail
    refine (HW.out _).mono ?_
    rintro e w3 ⟨rfl, hb3⟩
    replace hb1 := hb1.step hb3
    go_wp2_with (refine wpList_store_blk hb1 rfl _ _ _ (by rfl) _ (by rfl) (by rfl) (by (repeat (first | (with_reducible exact hb1) | (with_reducible refine Blk.alloc ?_ _) | (with_reducible refine Blk.drew ?_) | (with_reducible refine Blk.far ?_ (by first | (simp; done) | (simp; omega)) _) | (with_reducible refine Blk.turn ?_ (by with_reducible assumption) (by omega))))) (by rfl) (by kernel_rfl) (by simp [Value.oneCell']) ?_; intro wt hb1n ht)
    refine ret_blk2 rfl hb1n rfl Tryz.underlying23 rfl (by kernel_rfl) rfl ?_
    exact ⟨rfl, by (repeat' (first | (with_reducible exact Below.refl _ _) | (with_reducible assumption) | (with_reducible refine balloc ?_ _) | (with_reducible refine Below.drew ?_) | (with_reducible refine bset ?_ ?_ _) | (with_reducible refine bstep ?_ (by with_reducible assumption)) | (with_reducible refine bturn ?_ (by with_reducible assumption) ?_) | go_size))⟩

set_option maxHeartbeats 2000000 in
set_option maxRecDepth 100000 in
theorem parse_B {s r wh pa pt : ByteArray} {minus dot : Bool} (H : CutUp s r wh pa pt minus dot) (hw : digB wh = true) (hd : dot = true) (hp : digB pa = false) (m : Int) (w : World) (hm : w.cell? ⟨1, 0, none⟩ = some (.int .i64 m)) :
    Calls Tryz.prog 201 #[.string s] w fun e w' => e = .returned (.tuple #[.agg #[.int .i64 (0), .int .i64 (0)], .int .i64 (5)]) ∧ Below w.heap.size w w' := by
  have hb1 := Blk.new w 23 #[.int .i64 0, .int .i64 0]
  have hm2 : (w.alloc (.cells #[.int .i64 0, .int .i64 0] 23)).cell? ⟨1, 0, none⟩ = some (.int .i64 m) := by exact (World.cell?_alloc_some w _ _ (by rw [hm]; rfl)).trans hm
  have HM := Lib.hid hm2
  have HPr := Lib.hid (fun w => prefix_lit s r minus w H.h1 H.h2)
  have HCu := Lib.hid (fun w hm => cut_lit r wh pa dot m w H.s1 hm H.h3)
  have s2 := H.s2
  have s3 := H.s3
  have s4 := H.s4
  have HRi := Lib.hid (fun w => right_lit pa pt w (by omega) H.h4)
  have HW := Lib.hid (fun w => digits_lit s2 hw w)
  have HP := Lib.hid (fun w => digits_lit s3 hp w)
  subst hd
  clear hm hm2 H hw hp
  all_goals
    go_enter Tryz.func201, Tryz.ntmps201
    go_wp2_with fail
    refine (HPr.out _).mono ?_
    rintro e w1 ⟨rfl, rfl⟩
    go_wp2_with fail
    refine (HCu.out _ HM.out).mono ?_
    rintro e w2 ⟨rfl, hb2⟩
    replace hb1 := hb1.step hb2
    go_wp2_with fail
    refine (HW.out _).mono ?_
    rintro e w3 ⟨rfl, hb3⟩
    replace hb1 := hb1.step hb3
    go_wp2_with fail
    refine (HP.out _).mono ?_
    rintro e w4 ⟨rfl, hb4⟩
    replace hb1 := hb1.step hb4
    go_wp2_with (refine wpList_store_blk hb1 rfl _ _ _ (by rfl) _ (by rfl) (by rfl) (by (repeat (first | (with_reducible exact hb1) | (with_reducible refine Blk.alloc ?_ _) | (with_reducible refine Blk.drew ?_) | (with_reducible refine Blk.far ?_ (by first | (simp; done) | (simp; omega)) _) | (with_reducible refine Blk.turn ?_ (by with_reducible assumption) (by omega))))) (by rfl) (by kernel_rfl) (by simp [Value.oneCell']) ?_; intro wt hb1n ht)
    refine ret_blk2 rfl hb1n rfl Tryz.underlying23 rfl (by kernel_rfl) rfl ?_
    exact ⟨rfl, by (repeat' (first | (with_reducible exact Below.refl _ _) | (with_reducible assumption) | (with_reducible refine balloc ?_ _) | (with_reducible refine Below.drew ?_) | (with_reducible refine bset ?_ ?_ _) | (with_reducible refine bstep ?_ (by with_reducible assumption)) | (with_reducible refine bturn ?_ (by with_reducible assumption) ?_) | go_size))⟩

set_option maxHeartbeats 2000000 in
set_option maxRecDepth 100000 in
theorem parse_C {s r wh pa pt : ByteArray} {minus dot : Bool} (H : CutUp s r wh pa pt minus dot) (hw : digB wh = true) (hp : dot = false ∨ dot = true ∧ digB pa = true) (hz : 1 < wh.size) (hz2 : (wh[0]'(by omega)).toNat = 48) (m : Int) (w : World) (hm : w.cell? ⟨1, 0, none⟩ = some (.int .i64 m)) :
    Calls Tryz.prog 201 #[.string s] w fun e w' => e = .returned (.tuple #[.agg #[.int .i64 (0), .int .i64 (0)], .int .i64 (5)]) ∧ Below w.heap.size w w' := by
  have hb1 := Blk.new w 23 #[.int .i64 0, .int .i64 0]
  have hm2 : (w.alloc (.cells #[.int .i64 0, .int .i64 0] 23)).cell? ⟨1, 0, none⟩ = some (.int .i64 m) := by exact (World.cell?_alloc_some w _ _ (by rw [hm]; rfl)).trans hm
  have HM := Lib.hid hm2
  have HPr := Lib.hid (fun w => prefix_lit s r minus w H.h1 H.h2)
  have HCu := Lib.hid (fun w hm => cut_lit r wh pa dot m w H.s1 hm H.h3)
  have s2 := H.s2
  have s3 := H.s3
  have s4 := H.s4
  have HRi := Lib.hid (fun w => right_lit pa pt w (by omega) H.h4)
  have HW := Lib.hid (fun w => digits_lit s2 hw w)
  have hz1 : (1 : Int) < (wh.size : Int) := by omega
  have hz3 : (((wh[0]'(by omega)).toNat : Nat) : Int) = 48 := by omega
  clear hm hm2 H hw hz2
  rcases hp with rfl | ⟨rfl, hp2⟩
  · go_enter Tryz.func201, Tryz.ntmps201
    go_wp2_with fail
    refine (HPr.out _).mono ?_
    rintro e w1 ⟨rfl, rfl⟩
    go_wp2_with fail
    refine (HCu.out _ HM.out).mono ?_
    rintro e w2 ⟨rfl, hb2⟩
    replace hb1 := hb1.step hb2
    go_wp2_with fail
    refine (HW.out _).mono ?_
    rintro e w3 ⟨rfl, hb3⟩
    replace hb1 := hb1.step hb3
    go_wp2_with (refine wpList_store_blk hb1 rfl _ _ _ (by rfl) _ (by rfl) (by rfl) (by (repeat (first | (with_reducible exact hb1) | (with_reducible refine Blk.alloc ?_ _) | (with_reducible refine Blk.drew ?_) | (with_reducible refine Blk.far ?_ (by first | (simp; done) | (simp; omega)) _) | (with_reducible refine Blk.turn ?_ (by with_reducible assumption) (by omega))))) (by rfl) (by kernel_rfl) (by simp [Value.oneCell']) ?_; intro wt hb1n ht)
    refine ret_blk2 rfl hb1n rfl Tryz.underlying23 rfl (by kernel_rfl) rfl ?_
    exact ⟨rfl, by (repeat' (first | (with_reducible exact Below.refl _ _) | (with_reducible assumption) | (with_reducible refine balloc ?_ _) | (with_reducible refine Below.drew ?_) | (with_reducible refine bset ?_ ?_ _) | (with_reducible refine bstep ?_ (by with_reducible assumption)) | (with_reducible refine bturn ?_ (by with_reducible assumption) ?_) | go_size))⟩
  · have HP := Lib.hid (fun w => digits_lit s3 hp2 w)
    clear hp2
    go_enter Tryz.func201, Tryz.ntmps201
    go_wp2_with fail
    refine (HPr.out _).mono ?_
    rintro e w1 ⟨rfl, rfl⟩
    go_wp2_with fail
    refine (HCu.out _ HM.out).mono ?_
    rintro e w2 ⟨rfl, hb2⟩
    replace hb1 := hb1.step hb2
    go_wp2_with fail
    refine (HW.out _).mono ?_
    rintro e w3 ⟨rfl, hb3⟩
    replace hb1 := hb1.step hb3
    go_wp2_with fail
    refine (HP.out _).mono ?_
    rintro e w4 ⟨rfl, hb4⟩
    replace hb1 := hb1.step hb4
    go_wp2_with (refine wpList_store_blk hb1 rfl _ _ _ (by rfl) _ (by rfl) (by rfl) (by (repeat (first | (with_reducible exact hb1) | (with_reducible refine Blk.alloc ?_ _) | (with_reducible refine Blk.drew ?_) | (with_reducible refine Blk.far ?_ (by first | (simp; done) | (simp; omega)) _) | (with_reducible refine Blk.turn ?_ (by with_reducible assumption) (by omega))))) (by rfl) (by kernel_rfl) (by simp [Value.oneCell']) ?_; intro wt hb1n ht)
    refine ret_blk2 rfl hb1n rfl Tryz.underlying23 rfl (by kernel_rfl) rfl ?_
    exact ⟨rfl, by (repeat' (first | (with_reducible exact Below.refl _ _) | (with_reducible assumption) | (with_reducible refine balloc ?_ _) | (with_reducible refine Below.drew ?_) | (with_reducible refine bset ?_ ?_ _) | (with_reducible refine bstep ?_ (by with_reducible assumption)) | (with_reducible refine bturn ?_ (by with_reducible assumption) ?_) | go_size))⟩

set_option maxHeartbeats 2000000 in
set_option maxRecDepth 100000 in
theorem parse_Do {s r wh pa pt : ByteArray} {minus dot : Bool} (H : CutUp s r wh pa pt minus dot) (hw : digB wh = true) (hp : dot = false ∨ dot = true ∧ digB pa = true) (hz : ¬ 1 < wh.size) (hl : 6 < pt.size) (m : Int) (w : World) (hm : w.cell? ⟨1, 0, none⟩ = some (.int .i64 m)) :
    Calls Tryz.prog 201 #[.string s] w fun e w' => e = .returned (.tuple #[.agg #[.int .i64 (0), .int .i64 (0)], .int .i64 (3)]) ∧ Below w.heap.size w w' := by
  have hb1 := Blk.new w 23 #[.int .i64 0, .int .i64 0]
  have hm2 : (w.alloc (.cells #[.int .i64 0, .int .i64 0] 23)).cell? ⟨1, 0, none⟩ = some (.int .i64 m) := by exact (World.cell?_alloc_some w _ _ (by rw [hm]; rfl)).trans hm
  have HM := Lib.hid hm2
  have HPr := Lib.hid (fun w => prefix_lit s r minus w H.h1 H.h2)
  have HCu := Lib.hid (fun w hm => cut_lit r wh pa dot m w H.s1 hm H.h3)
  have s2 := H.s2
  have s3 := H.s3
  have s4 := H.s4
  have HRi := Lib.hid (fun w => right_lit pa pt w (by omega) H.h4)
  have HW := Lib.hid (fun w => digits_lit s2 hw w)
  have hz1 : ¬ (1 : Int) < (wh.size : Int) := by omega
  have hl1 : (6 : Int) < (pt.size : Int) := by omega
  clear hm hm2 H hw 
  rcases hp with rfl | ⟨rfl, hp2⟩
  · go_enter Tryz.func201, Tryz.ntmps201
    go_wp2_with fail
    refine (HPr.out _).mono ?_
    rintro e w1 ⟨rfl, rfl⟩
    go_wp2_with fail
    refine (HCu.out _ HM.out).mono ?_
    rintro e w2 ⟨rfl, hb2⟩
    replace hb1 := hb1.step hb2
    go_wp2_with fail
    refine (HW.out _).mono ?_
    rintro e w3 ⟨rfl, hb3⟩
    replace hb1 := hb1.step hb3
    go_wp2_with fail
    refine (HRi.out _).mono ?_
    rintro e w5 ⟨rfl, rfl⟩
    go_wp2_with (refine wpList_store_blk hb1 rfl _ _ _ (by rfl) _ (by rfl) (by rfl) (by (repeat (first | (with_reducible exact hb1) | (with_reducible refine Blk.alloc ?_ _) | (with_reducible refine Blk.drew ?_) | (with_reducible refine Blk.far ?_ (by first | (simp; done) | (simp; omega)) _) | (with_reducible refine Blk.turn ?_ (by with_reducible assumption) (by omega))))) (by rfl) (by kernel_rfl) (by simp [Value.oneCell']) ?_; intro wt hb1n ht)
    refine ret_blk2 rfl hb1n rfl Tryz.underlying23 rfl (by kernel_rfl) rfl ?_
    exact ⟨rfl, by (repeat' (first | (with_reducible exact Below.refl _ _) | (with_reducible assumption) | (with_reducible refine balloc ?_ _) | (with_reducible refine Below.drew ?_) | (with_reducible refine bset ?_ ?_ _) | (with_reducible refine bstep ?_ (by with_reducible assumption)) | (with_reducible refine bturn ?_ (by with_reducible assumption) ?_) | go_size))⟩
  · have HP := Lib.hid (fun w => digits_lit s3 hp2 w)
    clear hp2
    go_enter Tryz.func201, Tryz.ntmps201
    go_wp2_with fail
    refine (HPr.out _).mono ?_
    rintro e w1 ⟨rfl, rfl⟩
    go_wp2_with fail
    refine (HCu.out _ HM.out).mono ?_
    rintro e w2 ⟨rfl, hb2⟩
    replace hb1 := hb1.step hb2
    go_wp2_with fail
    refine (HW.out _).mono ?_
    rintro e w3 ⟨rfl, hb3⟩
    replace hb1 := hb1.step hb3
    go_wp2_with fail
    refine (HP.out _).mono ?_
    rintro e w4 ⟨rfl, hb4⟩
    replace hb1 := hb1.step hb4
    go_wp2_with fail
    refine (HRi.out _).mono ?_
    rintro e w5 ⟨rfl, rfl⟩
    go_wp2_with (refine wpList_store_blk hb1 rfl _ _ _ (by rfl) _ (by rfl) (by rfl) (by (repeat (first | (with_reducible exact hb1) | (with_reducible refine Blk.alloc ?_ _) | (with_reducible refine Blk.drew ?_) | (with_reducible refine Blk.far ?_ (by first | (simp; done) | (simp; omega)) _) | (with_reducible refine Blk.turn ?_ (by with_reducible assumption) (by omega))))) (by rfl) (by kernel_rfl) (by simp [Value.oneCell']) ?_; intro wt hb1n ht)
    refine ret_blk2 rfl hb1n rfl Tryz.underlying23 rfl (by kernel_rfl) rfl ?_
    exact ⟨rfl, by (repeat' (first | (with_reducible exact Below.refl _ _) | (with_reducible assumption) | (with_reducible refine balloc ?_ _) | (with_reducible refine Below.drew ?_) | (with_reducible refine bset ?_ ?_ _) | (with_reducible refine bstep ?_ (by with_reducible assumption)) | (with_reducible refine bturn ?_ (by with_reducible assumption) ?_) | go_size))⟩

set_option maxHeartbeats 2000000 in
set_option maxRecDepth 100000 in
theorem parse_Fo {s r wh pa pt : ByteArray} {minus dot : Bool} (H : CutUp s r wh pa pt minus dot) (hw : digB wh = true) (hp : dot = false ∨ dot = true ∧ digB pa = true) (hz : ¬ 1 < wh.size) (hl : pt.size ≤ 6) (hl2 : wh.size ≤ 12) (u : Nat) (hu : Lib.parseUintB 64 (wh ++ pt).data.toList = .ok u) (hu64 : u < 18446744073709551616) (m : Int) (w : World) (hm : w.cell? ⟨1, 0, none⟩ = some (.int .i64 m)) :
    Calls Tryz.prog 201 #[.string s] w fun e w' => e = .returned (.tuple #[.agg #[.int .i64 ((decS pt.size u minus).n), .int .i64 ((decS pt.size u minus).s)], .int .i64 ((decS pt.size u minus).e)]) ∧ Below w.heap.size w w' := by
  have hb1 := Blk.new w 23 #[.int .i64 0, .int .i64 0]
  have hm2 : (w.alloc (.cells #[.int .i64 0, .int .i64 0] 23)).cell? ⟨1, 0, none⟩ = some (.int .i64 m) := by exact (World.cell?_alloc_some w _ _ (by rw [hm]; rfl)).trans hm
  have HM := Lib.hid hm2
  have HPr := Lib.hid (fun w => prefix_lit s r minus w H.h1 H.h2)
  have HCu := Lib.hid (fun w hm => cut_lit r wh pa dot m w H.s1 hm H.h3)
  have s2 := H.s2
  have s3 := H.s3
  have s4 := H.s4
  have HRi := Lib.hid (fun w => right_lit pa pt w (by omega) H.h4)
  have HW := Lib.hid (fun w => digits_lit s2 hw w)
  have hz1 : ¬ (1 : Int) < (wh.size : Int) := by omega
  have hl1 : ¬ (6 : Int) < (pt.size : Int) := by omega
  have hl3 : ¬ (12 : Int) < (wh.size : Int) := by omega
  have HU := Lib.hid (fun w => uint_lit (wh ++ pt) u w (by rw [ByteArray.size_append]; omega) hu)
  have HDc := Lib.hid (fun w => dec_any (u : Int) (pt.size : Int) minus (by omega) (by omega) (by omega) (by omega) w)
  simp only [Int.toNat_natCast] at HDc
  clear hm hm2 H hw  hu
  rcases hp with rfl | ⟨rfl, hp2⟩
  · go_enter Tryz.func201, Tryz.ntmps201
    go_wp2_with fail
    refine (HPr.out _).mono ?_
    rintro e w1 ⟨rfl, rfl⟩
    go_wp2_with fail
    refine (HCu.out _ HM.out).mono ?_
    rintro e w2 ⟨rfl, hb2⟩
    replace hb1 := hb1.step hb2
    go_wp2_with fail
    refine (HW.out _).mono ?_
    rintro e w3 ⟨rfl, hb3⟩
    replace hb1 := hb1.step hb3
    go_wp2_with fail
    refine (HRi.out _).mono ?_
    rintro e w5 ⟨rfl, rfl⟩
    go_wp2_with fail
    refine (HU.out _).mono ?_
    rintro e w6 ⟨rfl, hb6⟩
    replace hb1 := hb1.step hb6
    go_wp2_with fail
    refine (HDc.out _).mono ?_
    rintro e w7 ⟨rfl, hb7⟩
    replace hb1 := hb1.step hb7
    go_wp2_with (refine wpList_store_blk hb1 rfl _ _ _ (by rfl) _ (by rfl) (by rfl) (by (repeat (first | (with_reducible exact hb1) | (with_reducible refine Blk.alloc ?_ _) | (with_reducible refine Blk.drew ?_) | (with_reducible refine Blk.far ?_ (by first | (simp; done) | (simp; omega)) _) | (with_reducible refine Blk.turn ?_ (by with_reducible assumption) (by omega))))) (by rfl) (by kernel_rfl) (by simp [Value.oneCell']) ?_; intro wt hb1n ht)
    refine ret_blk2 rfl hb1n rfl Tryz.underlying23 rfl (by kernel_rfl) rfl ?_
    exact ⟨rfl, by (repeat' (first | (with_reducible exact Below.refl _ _) | (with_reducible assumption) | (with_reducible refine balloc ?_ _) | (with_reducible refine Below.drew ?_) | (with_reducible refine bset ?_ ?_ _) | (with_reducible refine bstep ?_ (by with_reducible assumption)) | (with_reducible refine bturn ?_ (by with_reducible assumption) ?_) | go_size))⟩
  · have HP := Lib.hid (fun w => digits_lit s3 hp2 w)
    clear hp2
    go_enter Tryz.func201, Tryz.ntmps201
    go_wp2_with fail
    refine (HPr.out _).mono ?_
    rintro e w1 ⟨rfl, rfl⟩
    go_wp2_with fail
    refine (HCu.out _ HM.out).mono ?_
    rintro e w2 ⟨rfl, hb2⟩
    replace hb1 := hb1.step hb2
    go_wp2_with fail
    refine (HW.out _).mono ?_
    rintro e w3 ⟨rfl, hb3⟩
    replace hb1 := hb1.step hb3
    go_wp2_with fail
    refine (HP.out _).mono ?_
    rintro e w4 ⟨rfl, hb4⟩
    replace hb1 := hb1.step hb4
    go_wp2_with fail
    refine (HRi.out _).mono ?_
    rintro e w5 ⟨rfl, rfl⟩
    go_wp2_with fail
    refine (HU.out _).mono ?_
    rintro e w6 ⟨rfl, hb6⟩
    replace hb1 := hb1.step hb6
    go_wp2_with fail
    refine (HDc.out _).mono ?_
    rintro e w7 ⟨rfl, hb7⟩
    replace hb1 := hb1.step hb7
    go_wp2_with (refine wpList_store_blk hb1 rfl _ _ _ (by rfl) _ (by rfl) (by rfl) (by (repeat (first | (with_reducible exact hb1) | (with_reducible refine Blk.alloc ?_ _) | (with_reducible refine Blk.drew ?_) | (with_reducible refine Blk.far ?_ (by first | (simp; done) | (simp; omega)) _) | (with_reducible refine Blk.turn ?_ (by with_reducible assumption) (by omega))))) (by rfl) (by kernel_rfl) (by simp [Value.oneCell']) ?_; intro wt hb1n ht)
    refine ret_blk2 rfl hb1n rfl Tryz.underlying23 rfl (by kernel_rfl) rfl ?_
    exact ⟨rfl, by (repeat' (first | (with_reducible exact Below.refl _ _) | (with_reducible assumption) | (with_reducible refine balloc ?_ _) | (with_reducible refine Below.drew ?_) | (with_reducible refine bset ?_ ?_ _) | (with_reducible refine bstep ?_ (by with_reducible assumption)) | (with_reducible refine bturn ?_ (by with_reducible assumption) ?_) | go_size))⟩

set_option maxHeartbeats 2000000 in
set_option maxRecDepth 100000 in
theorem parse_Dt {s r wh pa pt : ByteArray} {minus dot : Bool} (H : CutUp s r wh pa pt minus dot) (hw : digB wh = true) (hp : dot = false ∨ dot = true ∧ digB pa = true) (hz : 1 < wh.size) (hz2 : ¬ (wh[0]'(by omega)).toNat = 48) (hl : 6 < pt.size) (m : Int) (w : World) (hm : w.cell? ⟨1, 0, none⟩ = some (.int .i64 m)) :
    Calls Tryz.prog 201 #[.string s] w fun e w' => e = .returned (.tuple #[.agg #[.int .i64 (0), .int .i64 (0)], .int .i64 (3)]) ∧ Below w.heap.size w w' := by
  have hb1 := Blk.new w 23 #[.int .i64 0, .int .i64 0]
  have hm2 : (w.alloc (.cells #[.int .i64 0, .int .i64 0] 23)).cell? ⟨1, 0, none⟩ = some (.int .i64 m) := by exact (World.cell?_alloc_some w _ _ (by rw [hm]; rfl)).trans hm
  have HM := Lib.hid hm2
  have HPr := Lib.hid (fun w => prefix_lit s r minus w H.h1 H.h2)
  have HCu := Lib.hid (fun w hm => cut_lit r wh pa dot m w H.s1 hm H.h3)
  have s2 := H.s2
  have s3 := H.s3
  have s4 := H.s4
  have HRi := Lib.hid (fun w => right_lit pa pt w (by omega) H.h4)
  have HW := Lib.hid (fun w => digits_lit s2 hw w)
  have hz1 : (1 : Int) < (wh.size : Int) := by omega
  have hz3 : ¬ (((wh[0]'(by omega)).toNat : Nat) : Int) = 48 := by omega
  have hl1 : (6 : Int) < (pt.size : Int) := by omega
  clear hm hm2 H hw hz2
  rcases hp with rfl | ⟨rfl, hp2⟩
  · go_enter Tryz.func201, Tryz.ntmps201
    go_wp2_with fail
    refine (HPr.out _).mono ?_
    rintro e w1 ⟨rfl, rfl⟩
    go_wp2_with fail
    refine (HCu.out _ HM.out).mono ?_
    rintro e w2 ⟨rfl, hb2⟩
    replace hb1 := hb1.step hb2
    go_wp2_with fail
    refine (HW.out _).mono ?_
    rintro e w3 ⟨rfl, hb3⟩
    replace hb1 := hb1.step hb3
    go_wp2_with fail
    refine (HRi.out _).mono ?_
    rintro e w5 ⟨rfl, rfl⟩
    go_wp2_with (refine wpList_store_blk hb1 rfl _ _ _ (by rfl) _ (by rfl) (by rfl) (by (repeat (first | (with_reducible exact hb1) | (with_reducible refine Blk.alloc ?_ _) | (with_reducible refine Blk.drew ?_) | (with_reducible refine Blk.far ?_ (by first | (simp; done) | (simp; omega)) _) | (with_reducible refine Blk.turn ?_ (by with_reducible assumption) (by omega))))) (by rfl) (by kernel_rfl) (by simp [Value.oneCell']) ?_; intro wt hb1n ht)
    refine ret_blk2 rfl hb1n rfl Tryz.underlying23 rfl (by kernel_rfl) rfl ?_
    exact ⟨rfl, by (repeat' (first | (with_reducible exact Below.refl _ _) | (with_reducible assumption) | (with_reducible refine balloc ?_ _) | (with_reducible refine Below.drew ?_) | (with_reducible refine bset ?_ ?_ _) | (with_reducible refine bstep ?_ (by with_reducible assumption)) | (with_reducible refine bturn ?_ (by with_reducible assumption) ?_) | go_size))⟩
  · have HP := Lib.hid (fun w => digits_lit s3 hp2 w)
    clear hp2
    go_enter Tryz.func201, Tryz.ntmps201
    go_wp2_with fail
    refine (HPr.out _).mono ?_
    rintro e w1 ⟨rfl, rfl⟩
    go_wp2_with fail
    refine (HCu.out _ HM.out).mono ?_
    rintro e w2 ⟨rfl, hb2⟩
    replace hb1 := hb1.step hb2
    go_wp2_with fail
    refine (HW.out _).mono ?_
    rintro e w3 ⟨rfl, hb3⟩
    replace hb1 := hb1.step hb3
    go_wp2_with fail
    refine (HP.out _).mono ?_
    rintro e w4 ⟨rfl, hb4⟩
    replace hb1 := hb1.step hb4
    go_wp2_with fail
    refine (HRi.out _).mono ?_
    rintro e w5 ⟨rfl, rfl⟩
    go_wp2_with (refine wpList_store_blk hb1 rfl _ _ _ (by rfl) _ (by rfl) (by rfl) (by (repeat (first | (with_reducible exact hb1) | (with_reducible refine Blk.alloc ?_ _) | (with_reducible refine Blk.drew ?_) | (with_reducible refine Blk.far ?_ (by first | (simp; done) | (simp; omega)) _) | (with_reducible refine Blk.turn ?_ (by with_reducible assumption) (by omega))))) (by rfl) (by kernel_rfl) (by simp [Value.oneCell']) ?_; intro wt hb1n ht)
    refine ret_blk2 rfl hb1n rfl Tryz.underlying23 rfl (by kernel_rfl) rfl ?_
    exact ⟨rfl, by (repeat' (first | (with_reducible exact Below.refl _ _) | (with_reducible assumption) | (with_reducible refine balloc ?_ _) | (with_reducible refine Below.drew ?_) | (with_reducible refine bset ?_ ?_ _) | (with_reducible refine bstep ?_ (by with_reducible assumption)) | (with_reducible refine bturn ?_ (by with_reducible assumption) ?_) | go_size))⟩

set_option maxHeartbeats 2000000 in
set_option maxRecDepth 100000 in
theorem parse_Et {s r wh pa pt : ByteArray} {minus dot : Bool} (H : CutUp s r wh pa pt minus dot) (hw : digB wh = true) (hp : dot = false ∨ dot = true ∧ digB pa = true) (hz : 1 < wh.size) (hz2 : ¬ (wh[0]'(by omega)).toNat = 48) (hl : pt.size ≤ 6) (hl2 : 12 < wh.size) (m : Int) (w : World) (hm : w.cell? ⟨1, 0, none⟩ = some (.int .i64 m)) :
    Calls Tryz.prog 201 #[.string s] w fun e w' => e = .returned (.tuple #[.agg #[.int .i64 (0), .int .i64 (0)], .int .i64 (3)]) ∧ Below w.heap.size w w' := by
  have hb1 := Blk.new w 23 #[.int .i64 0, .int .i64 0]
  have hm2 : (w.alloc (.cells #[.int .i64 0, .int .i64 0] 23)).cell? ⟨1, 0, none⟩ = some (.int .i64 m) := by exact (World.cell?_alloc_some w _ _ (by rw [hm]; rfl)).trans hm
  have HM := Lib.hid hm2
  have HPr := Lib.hid (fun w => prefix_lit s r minus w H.h1 H.h2)
  have HCu := Lib.hid (fun w hm => cut_lit r wh pa dot m w H.s1 hm H.h3)
  have s2 := H.s2
  have s3 := H.s3
  have s4 := H.s4
  have HRi := Lib.hid (fun w => right_lit pa pt w (by omega) H.h4)
  have HW := Lib.hid (fun w => digits_lit s2 hw w)
  have hz1 : (1 : Int) < (wh.size : Int) := by omega
  have hz3 : ¬ (((wh[0]'(by omega)).toNat : Nat) : Int) = 48 := by omega
  have hl1 : ¬ (6 : Int) < (pt.size : Int) := by omega
  have hl3 : (12 : Int) < (wh.size : Int) := by omega
  clear hm hm2 H hw hz2
  rcases hp with rfl | ⟨rfl, hp2⟩
  · go_enter Tryz.func201, Tryz.ntmps201
    go_wp2_with fail
    refine (HPr.out _).mono ?_
    rintro e w1 ⟨rfl, rfl⟩
    go_wp2_with fail
    refine (HCu.out _ HM.out).mono ?_
    rintro e w2 ⟨rfl, hb2⟩
    replace hb1 := hb1.step hb2
    go_wp2_with fail
    refine (HW.out _).mono ?_
    rintro e w3 ⟨rfl, hb3⟩
    replace hb1 := hb1.step hb3
    go_wp2_with fail
    refine (HRi.out _).mono ?_
    rintro e w5 ⟨rfl, rfl⟩
    go_wp2_with (refine wpList_store_blk hb1 rfl _ _ _ (by rfl) _ (by rfl) (by rfl) (by (repeat (first | (with_reducible exact hb1) | (with_reducible refine Blk.alloc ?_ _) | (with_reducible refine Blk.drew ?_) | (with_reducible refine Blk.far ?_ (by first | (simp; done) | (simp; omega)) _) | (with_reducible refine Blk.turn ?_ (by with_reducible assumption) (by omega))))) (by rfl) (by kernel_rfl) (by simp [Value.oneCell']) ?_; intro wt hb1n ht)
    refine ret_blk2 rfl hb1n rfl Tryz.underlying23 rfl (by kernel_rfl) rfl ?_
    exact ⟨rfl, by (repeat' (first | (with_reducible exact Below.refl _ _) | (with_reducible assumption) | (with_reducible refine balloc ?_ _) | (with_reducible refine Below.drew ?_) | (with_reducible refine bset ?_ ?_ _) | (with_reducible refine bstep ?_ (by with_reducible assumption)) | (with_reducible refine bturn ?_ (by with_reducible assumption) ?_) | go_size))⟩
  · have HP := Lib.hid (fun w => digits_lit s3 hp2 w)
    clear hp2
    go_enter Tryz.func201, Tryz.ntmps201
    go_wp2_with fail
    refine (HPr.out _).mono ?_
    rintro e w1 ⟨rfl, rfl⟩
    go_wp2_with fail
    refine (HCu.out _ HM.out).mono ?_
    rintro e w2 ⟨rfl, hb2⟩
    replace hb1 := hb1.step hb2
    go_wp2_with fail
    refine (HW.out _).mono ?_
    rintro e w3 ⟨rfl, hb3⟩
    replace hb1 := hb1.step hb3
    go_wp2_with fail
    refine (HP.out _).mono ?_
    rintro e w4 ⟨rfl, hb4⟩
    replace hb1 := hb1.step hb4
    go_wp2_with fail
    refine (HRi.out _).mono ?_
    rintro e w5 ⟨rfl, rfl⟩
    go_wp2_with (refine wpList_store_blk hb1 rfl _ _ _ (by rfl) _ (by rfl) (by rfl) (by (repeat (first | (with_reducible exact hb1) | (with_reducible refine Blk.alloc ?_ _) | (with_reducible refine Blk.drew ?_) | (with_reducible refine Blk.far ?_ (by first | (simp; done) | (simp; omega)) _) | (with_reducible refine Blk.turn ?_ (by with_reducible assumption) (by omega))))) (by rfl) (by kernel_rfl) (by simp [Value.oneCell']) ?_; intro wt hb1n ht)
    refine ret_blk2 rfl hb1n rfl Tryz.underlying23 rfl (by kernel_rfl) rfl ?_
    exact ⟨rfl, by (repeat' (first | (with_reducible exact Below.refl _ _) | (with_reducible assumption) | (with_reducible refine balloc ?_ _) | (with_reducible refine Below.drew ?_) | (with_reducible refine bset ?_ ?_ _) | (with_reducible refine bstep ?_ (by with_reducible assumption)) | (with_reducible refine bturn ?_ (by with_reducible assumption) ?_) | go_size))⟩

set_option maxHeartbeats 2000000 in
set_option maxRecDepth 100000 in
theorem parse_Ft {s r wh pa pt : ByteArray} {minus dot : Bool} (H : CutUp s r wh pa pt minus dot) (hw : digB wh = true) (hp : dot = false ∨ dot = true ∧ digB pa = true) (hz : 1 < wh.size) (hz2 : ¬ (wh[0]'(by omega)).toNat = 48) (hl : pt.size ≤ 6) (hl2 : wh.size ≤ 12) (u : Nat) (hu : Lib.parseUintB 64 (wh ++ pt).data.toList = .ok u) (hu64 : u < 18446744073709551616) (m : Int) (w : World) (hm : w.cell? ⟨1, 0, none⟩ = some (.int .i64 m)) :
    Calls Tryz.prog 201 #[.string s] w fun e w' => e = .returned (.tuple #[.agg #[.int .i64 ((decS pt.size u minus).n), .int .i64 ((decS pt.size u minus).s)], .int .i64 ((decS pt.size u minus).e)]) ∧ Below w.heap.size w w' := by
  have hb1 := Blk.new w 23 #[.int .i64 0, .int .i64 0]
  have hm2 : (w.alloc (.cells #[.int .i64 0, .int .i64 0] 23)).cell? ⟨1, 0, none⟩ = some (.int .i64 m) := by exact (World.cell?_alloc_some w _ _ (by rw [hm]; rfl)).trans hm
  have HM := Lib.hid hm2
  have HPr := Lib.hid (fun w => prefix_lit s r minus w H.h1 H.h2)
  have HCu := Lib.hid (fun w hm => cut_lit r wh pa dot m w H.s1 hm H.h3)
  have s2 := H.s2
  have s3 := H.s3
  have s4 := H.s4
  have HRi := Lib.hid (fun w => right_lit pa pt w (by omega) H.h4)
  have HW := Lib.hid (fun w => digits_lit s2 hw w)
  have hz1 : (1 : Int) < (wh.size : Int) := by omega
  have hz3 : ¬ (((wh[0]'(by omega)).toNat : Nat) : Int) = 48 := by omega
  have hl1 : ¬ (6 : Int) < (pt.size : Int) := by omega
  have hl3 : ¬ (12 : Int) < (wh.size : Int) := by omega
  have HU := Lib.hid (fun w => uint_lit (wh ++ pt) u w (by rw [ByteArray.size_append]; omega) hu)
  have HDc := Lib.hid (fun w => dec_any (u : Int) (pt.size : Int) minus (by omega) (by omega) (by omega) (by omega) w)
  simp only [Int.toNat_natCast] at HDc
  clear hm hm2 H hw hz2 hu
  rcases hp with rfl | ⟨rfl, hp2⟩
  · go_enter Tryz.func201, Tryz.ntmps201
    go_wp2_with fail
    refine (HPr.out _).mono ?_
    rintro e w1 ⟨rfl, rfl⟩
    go_wp2_with fail
    refine (HCu.out _ HM.out).mono ?_
    rintro e w2 ⟨rfl, hb2⟩
    replace hb1 := hb1.step hb2
    go_wp2_with fail
    refine (HW.out _).mono ?_
    rintro e w3 ⟨rfl, hb3⟩
    replace hb1 := hb1.step hb3
    go_wp2_with fail
    refine (HRi.out _).mono ?_
    rintro e w5 ⟨rfl, rfl⟩
    go_wp2_with fail
    refine (HU.out _).mono ?_
    rintro e w6 ⟨rfl, hb6⟩
    replace hb1 := hb1.step hb6
    go_wp2_with fail
    refine (HDc.out _).mono ?_
    rintro e w7 ⟨rfl, hb7⟩
    replace hb1 := hb1.step hb7
    go_wp2_with (refine wpList_store_blk hb1 rfl _ _ _ (by rfl) _ (by rfl) (by rfl) (by (repeat (first | (with_reducible exact hb1) | (with_reducible refine Blk.alloc ?_ _) | (with_reducible refine Blk.drew ?_) | (with_reducible refine Blk.far ?_ (by first | (simp; done) | (simp; omega)) _) | (with_reducible refine Blk.turn ?_ (by with_reducible assumption) (by omega))))) (by rfl) (by kernel_rfl) (by simp [Value.oneCell']) ?_; intro wt hb1n ht)
    refine ret_blk2 rfl hb1n rfl Tryz.underlying23 rfl (by kernel_rfl) rfl ?_
    exact ⟨rfl, by (repeat' (first | (with_reducible exact Below.refl _ _) | (with_reducible assumption) | (with_reducible refine balloc ?_ _) | (with_reducible refine Below.drew ?_) | (with_reducible refine bset ?_ ?_ _) | (with_reducible refine bstep ?_ (by with_reducible assumption)) | (with_reducible refine bturn ?_ (by with_reducible assumption) ?_) | go_size))⟩
  · have HP := Lib.hid (fun w => digits_lit s3 hp2 w)
    clear hp2
    go_enter Tryz.func201, Tryz.ntmps201
    go_wp2_with fail
    refine (HPr.out _).mono ?_
    rintro e w1 ⟨rfl, rfl⟩
    go_wp2_with fail
    refine (HCu.out _ HM.out).mono ?_
    rintro e w2 ⟨rfl, hb2⟩
    replace hb1 := hb1.step hb2
    go_wp2_with fail
    refine (HW.out _).mono ?_
    rintro e w3 ⟨rfl, hb3⟩
    replace hb1 := hb1.step hb3
    go_wp2_with fail
    refine (HP.out _).mono ?_
    rintro e w4 ⟨rfl, hb4⟩
    replace hb1 := hb1.step hb4
    go_wp2_with fail
    refine (HRi.out _).mono ?_
    rintro e w5 ⟨rfl, rfl⟩
    go_wp2_with fail
    refine (HU.out _).mono ?_
    rintro e w6 ⟨rfl, hb6⟩
    replace hb1 := hb1.step hb6
    go_wp2_with fail
    refine (HDc.out _).mono ?_
    rintro e w7 ⟨rfl, hb7⟩
    replace hb1 := hb1.step hb7
    go_wp2_with (refine wpList_store_blk hb1 rfl _ _ _ (by rfl) _ (by rfl) (by rfl) (by (repeat (first | (with_reducible exact hb1) | (with_reducible refine Blk.alloc ?_ _) | (with_reducible refine Blk.drew ?_) | (with_reducible refine Blk.far ?_ (by first | (simp; done) | (simp; omega)) _) | (with_reducible refine Blk.turn ?_ (by with_reducible assumption) (by omega))))) (by rfl) (by kernel_rfl) (by simp [Value.oneCell']) ?_; intro wt hb1n ht)
    refine ret_blk2 rfl hb1n rfl Tryz.underlying23 rfl (by kernel_rfl) rfl ?_
    exact ⟨rfl, by (repeat' (first | (with_reducible exact Below.refl _ _) | (with_reducible assumption) | (with_reducible refine balloc ?_ _) | (with_reducible refine Below.drew ?_) | (with_reducible refine bset ?_ ?_ _) | (with_reducible refine bstep ?_ (by with_reducible assumption)) | (with_reducible refine bturn ?_ (by with_reducible assumption) ?_) | go_size))⟩
end Go.Proofs.YtkkeplmaphcblaaGreatDoor

namespace Go.Proofs.YtkkeplmaphcblaaGreatDoor
open Go.RowKit
attribute [local go_sem high] run_dec_eql run_dec_neq

theorem t1 (W : World) (htab : Lib.TabIs Tryz.prog W "internal/strconv.uint64pow10" .u64 Lib.pow10Tab) : Calls Tryz.prog 183 #[.int .u64 125, .int .i64 10] W fun e w' => e = .returned (.string ⟨#[49, 50, 53]⟩) ∧ Below W.heap.size W w' := by
  have h := fmt_any 125 (by decide) W htab
  rw [show (⟨(Lib.decDigits 125).toArray⟩ : ByteArray) = ⟨#[49, 50, 53]⟩ by decide +kernel] at h
  exact h
theorem t2 (W : World) : Calls Tryz.prog 184 #[.string ⟨#[48]⟩, .int .i64 0] W fun e w' => e = .returned (.string ⟨#[]⟩) ∧ w' = W := Tryz.strings_Repeat_zero ⟨#[48]⟩ W

set_option maxHeartbeats 1000000 in
set_option maxRecDepth 100000 in
theorem text_awake (w : World) (htab : Lib.TabIs Tryz.prog w "internal/strconv.uint64pow10" .u64 Lib.pow10Tab) :
    Calls Tryz.prog 139 #[.agg #[.int .i64 125, .int .i64 1]] w fun e w' => e = .returned (.tuple #[.string ⟨#[49, 50, 46, 53]⟩, .int .i64 0]) ∧ Below w.heap.size w w' := by
  have hb0 := Blk.new w 23 #[.int .i64 125, .int .i64 1]
  have hs : soundS 125 1 = true := by decide +kernel
  have HT := Lib.hid (Lib.tabBelow_of_tabIs htab)
  clear htab
  go_enter Tryz.func139, Tryz.ntmps139
  go_wp2_with fail
  refine (all_1 125 1 (by unfold I64; omega) (by unfold I64; omega) _ _ 23 _ (Blk.new' _ _ _ (by simp))).mono ?_
  rintro e w1 ⟨rfl, hb⟩
  replace hb0 := (hb0.alloc _).step hb
  rw [if_pos hs]
  clear hs
  have c0 := hb0.cell 0
  have c1 := hb0.cell 1
  simp at c0 c1
  go_wp2_with (first | (go_at_call 174; refine (size_any 125 1 (by omega) (by omega) _).mono ?_; rintro e w' ⟨rfl, rfl⟩))
  rw [show mag 125 = 125 by decide +kernel]
  refine (t1 _ (HT.out _ (by (repeat' (first | (with_reducible exact Below.refl _ _) | (with_reducible assumption) | (with_reducible refine balloc ?_ _) | (with_reducible refine Below.drew ?_) | (with_reducible refine bset ?_ ?_ _) | (with_reducible refine bstep ?_ (by with_reducible assumption)) | (with_reducible refine bturn ?_ (by with_reducible assumption) ?_) | go_size))))).mono ?_
  rintro e w2 ⟨rfl, hb2⟩
  replace hb0 := (hb0.alloc _).step hb2
  have c2 := hb0.cell 0
  have c3 := hb0.cell 1
  simp at c2 c3
  go_wp2_with fail
  refine (t2 _).mono ?_
  rintro e w3 ⟨rfl, rfl⟩
  go_wp2_with fail
  have k2 : IntKind.i64.wrap 2 = 2 := by decide
  go_region_held3 (fun w' => w'.cell? ⟨w.heap.size, 0, none⟩ = some (.int .i64 125) ∧ w'.cell? ⟨w.heap.size, 1, none⟩ = some (.int .i64 1)) ((first | (simp [*, World.cell?_alloc_some, World.cell?_setCell_far]; done) | (go_split_ands; (repeat' apply And.intro) <;> first | assumption | exact keep1 (by assumption) (by assumption) | (simp [go_sem]; done) | (repeat (first | (with_reducible assumption) | (with_reducible refine keepd ?_) | (with_reducible refine keepa2 ?_)))))) (fail)
  go_wp2_with fail
  go_returns
  exact ⟨by kernel_rfl, by (repeat' (first | (with_reducible exact Below.refl _ _) | (with_reducible assumption) | (with_reducible refine balloc ?_ _) | (with_reducible refine Below.drew ?_) | (with_reducible refine bset ?_ ?_ _) | (with_reducible refine bstep ?_ (by with_reducible assumption)) | (with_reducible refine bturn ?_ (by with_reducible assumption) ?_) | go_size))⟩
end Go.Proofs.YtkkeplmaphcblaaGreatDoor

namespace Go.Proofs.YtkkeplmaphcblaaGreatDoor
open Go.RowKit
open Go.Lib hiding intOf
attribute [local go_sem high] run_dec_eql run_dec_neq

theorem repeat48 : ∀ c : Nat, repeatL [48] c = List.replicate c 48
  | 0 => rfl
  | c + 1 => by
    rw [List.replicate_succ, ← repeat48 c]
    rfl
theorem repeat_lit (c : Nat) (ci : Int) (R : ByteArray) (hc : c ≤ 100) (hci : (c : Int) = ci) (hR : ⟨(List.replicate c (48 : UInt8)).toArray⟩ = R) (w : World) :
    Calls Tryz.prog 184 #[.string ⟨#[48]⟩, .int .i64 ci] w fun e w' => e = .returned (.string R) ∧ Below w.heap.size w w' := by
  subst hci
  refine (Tryz.strings_Repeat ⟨#[48]⟩ c w (by omega) (by show 1 * c ≤ _; omega)).mono ?_
  rintro e w' ⟨rfl, hb⟩
  have : repeatL (⟨#[48]⟩ : ByteArray).data.toList c = List.replicate c 48 := repeat48 c
  rw [this, hR]
  exact ⟨rfl, hb⟩
theorem fmt_nat (N : Nat) (Ni : Int) (hNi : (N : Int) = Ni) (D : ByteArray) (hN : N < 18446744073709551616) (hD : ⟨(decDigits N).toArray⟩ = D) (w : World) (htab : Lib.TabIs Tryz.prog w "internal/strconv.uint64pow10" .u64 Lib.pow10Tab) :
    Calls Tryz.prog 183 #[.int .u64 Ni, .int .i64 10] w fun e w' => e = .returned (.string D) ∧ Below w.heap.size w w' := by
  subst hNi; subst hD
  exact fmt_any N hN w htab
theorem size_nat (n s Ni : Int) (h0 : -999999999999 ≤ n) (h1 : n ≤ 999999999999) (hNi : mag n = Ni) (w : World) :
    Calls Tryz.prog 174 #[.agg #[.int .i64 n, .int .i64 s]] w fun e w' => e = .returned (.int .u64 Ni) ∧ Below w.heap.size w w' := by
  subst hNi
  refine (size_any n s h0 h1 w).mono ?_
  rintro e w' ⟨rfl, rfl⟩
  exact ⟨rfl, by (repeat' (first | (with_reducible exact Below.refl _ _) | (with_reducible assumption) | (with_reducible refine balloc ?_ _) | (with_reducible refine Below.drew ?_) | (with_reducible refine bset ?_ ?_ _) | (with_reducible refine bstep ?_ (by with_reducible assumption)) | (with_reducible refine bturn ?_ (by with_reducible assumption) ?_) | go_size))⟩

theorem text_form (n s : Int) (hn : I64 n) (hs : I64 s) (hf : ¬ soundS n s = true) (w : World) :
    Calls Tryz.prog 139 #[.agg #[.int .i64 n, .int .i64 s]] w fun e w' => e = .returned (.tuple #[.string ⟨#[]⟩, .int .i64 2]) ∧ Below w.heap.size w w' := by
  have HN : Hid (I64 n ∧ I64 s) := ⟨hn, hs⟩
  clear hn hs
  go_enter Tryz.func139, Tryz.ntmps139
  go_wp2_with fail
  refine (all_1 n s HN.out.1 HN.out.2 _ _ 23 _ (Blk.new' _ _ _ (by simp))).mono ?_
  rintro e w1 ⟨rfl, hb⟩
  rw [if_neg hf]
  clear hf
  go_wp2
  go_returns
  exact ⟨rfl, by (repeat' (first | (with_reducible exact Below.refl _ _) | (with_reducible assumption) | (with_reducible refine balloc ?_ _) | (with_reducible refine Below.drew ?_) | (with_reducible refine bset ?_ ?_ _) | (with_reducible refine bstep ?_ (by with_reducible assumption)) | (with_reducible refine bturn ?_ (by with_reducible assumption) ?_) | go_size))⟩

set_option maxHeartbeats 2000000 in
set_option maxRecDepth 100000 in
theorem text_whole (n : Int) (N : Nat) (hn : I64 n) (b3 : -999999999999 ≤ n) (b4 : n ≤ 999999999999) (hf : soundS n 0 = true) (hN : mag n = (N : Int)) (T : ByteArray) (hT : ⟨(textS (decide (n < 0)) N 0).toArray⟩ = T) (w : World) (htab : Lib.TabIs Tryz.prog w "internal/strconv.uint64pow10" .u64 Lib.pow10Tab) :
    Calls Tryz.prog 139 #[.agg #[.int .i64 n, .int .i64 0]] w fun e w' => e = .returned (.tuple #[.string T, .int .i64 0]) ∧ Below w.heap.size w w' := by
  have hm := mag_bd b3 b4
  have hb0 := Blk.new w 23 #[.int .i64 n, .int .i64 0]
  have HN : Hid (I64 n) := hn
  have HT := Lib.hid (Lib.tabBelow_of_tabIs htab)
  obtain ⟨D, hD⟩ : ∃ D : ByteArray, ⟨(decDigits N).toArray⟩ = D := ⟨_, rfl⟩
  have hL : D.size ≤ 12 := by
    rw [← hD]
    show (decDigits N).toArray.size ≤ 12
    rw [List.size_toArray, decDigits_length]
    exact nDigits_le (by decide) (by omega)
  have HS := Lib.hid (fun w => size_nat n 0 (N : Int) b3 b4 hN w)
  have HF := Lib.hid (fun w h => fmt_nat N (N : Int) rfl D (by omega) hD w h)
  have HD := Lib.hid hD
  have HTT := Lib.hid hT
  clear htab hn hN hD hT hm
  by_cases hneg : n < 0
  · have e : textS (decide (n < 0)) N 0 = 45 :: decDigits N := by unfold textS textU; rw [decide_eq_true hneg]; rfl
    have E := Lib.hid e
    clear e
    go_enter Tryz.func139, Tryz.ntmps139
    go_wp2_with fail
    refine (all_1 n 0 HN.out (by unfold I64; omega) _ _ 23 _ (Blk.new' _ _ _ (by simp))).mono ?_
    rintro e w1 ⟨rfl, hb⟩
    replace hb0 := (hb0.alloc _).step hb
    rw [if_pos hf]
    clear hf
    have c0 := hb0.cell 0
    have c1 := hb0.cell 1
    simp at c0 c1
    go_wp2_with fail
    refine (HS.out _).mono ?_
    rintro e w2 ⟨rfl, hb2⟩
    go_wp2_with fail
    refine (HF.out _ (HT.out _ (by (repeat' (first | (with_reducible exact Below.refl _ _) | (with_reducible assumption) | (with_reducible refine balloc ?_ _) | (with_reducible refine Below.drew ?_) | (with_reducible refine bset ?_ ?_ _) | (with_reducible refine bstep ?_ (by with_reducible assumption)) | (with_reducible refine bturn ?_ (by with_reducible assumption) ?_) | go_size))))).mono ?_
    rintro e w3 ⟨rfl, hb3⟩
    replace hb0 := (hb0.step hb2).step hb3
    have d0 := hb0.cell 0
    have d1 := hb0.cell 1
    simp at d0 d1
    clear c0 c1
    go_wp2
    go_returns
    exact ⟨by
      rw [← HTT.out, E.out, ← HD.out]
      rw [show (⟨(45 :: decDigits N).toArray⟩ : ByteArray) = ⟨#[45]⟩ ++ ⟨(decDigits N).toArray⟩ from by apply ByteArray.ext; apply Array.toList_inj.1; simp]
      rfl, by (repeat' (first | (with_reducible exact Below.refl _ _) | (with_reducible assumption) | (with_reducible refine balloc ?_ _) | (with_reducible refine Below.drew ?_) | (with_reducible refine bset ?_ ?_ _) | (with_reducible refine bstep ?_ (by with_reducible assumption)) | (with_reducible refine bturn ?_ (by with_reducible assumption) ?_) | go_size))⟩
  · have e : textS (decide (n < 0)) N 0 = decDigits N := by unfold textS textU; rw [decide_eq_false hneg]; rfl
    have E := Lib.hid e
    clear e
    go_enter Tryz.func139, Tryz.ntmps139
    go_wp2_with fail
    refine (all_1 n 0 HN.out (by unfold I64; omega) _ _ 23 _ (Blk.new' _ _ _ (by simp))).mono ?_
    rintro e w1 ⟨rfl, hb⟩
    replace hb0 := (hb0.alloc _).step hb
    rw [if_pos hf]
    clear hf
    have c0 := hb0.cell 0
    have c1 := hb0.cell 1
    simp at c0 c1
    go_wp2_with fail
    refine (HS.out _).mono ?_
    rintro e w2 ⟨rfl, hb2⟩
    go_wp2_with fail
    refine (HF.out _ (HT.out _ (by (repeat' (first | (with_reducible exact Below.refl _ _) | (with_reducible assumption) | (with_reducible refine balloc ?_ _) | (with_reducible refine Below.drew ?_) | (with_reducible refine bset ?_ ?_ _) | (with_reducible refine bstep ?_ (by with_reducible assumption)) | (with_reducible refine bturn ?_ (by with_reducible assumption) ?_) | go_size))))).mono ?_
    rintro e w3 ⟨rfl, hb3⟩
    replace hb0 := (hb0.step hb2).step hb3
    have d0 := hb0.cell 0
    have d1 := hb0.cell 1
    simp at d0 d1
    clear c0 c1
    go_wp2
    go_returns
    exact ⟨by rw [← HTT.out, E.out, HD.out]; rfl, by (repeat' (first | (with_reducible exact Below.refl _ _) | (with_reducible assumption) | (with_reducible refine balloc ?_ _) | (with_reducible refine Below.drew ?_) | (with_reducible refine bset ?_ ?_ _) | (with_reducible refine bstep ?_ (by with_reducible assumption)) | (with_reducible refine bturn ?_ (by with_reducible assumption) ?_) | go_size))⟩

set_option maxHeartbeats 2000000 in
set_option maxRecDepth 100000 in
theorem text_part (n : Int) (N sc : Nat) (hn : I64 n) (b3 : -999999999999 ≤ n) (b4 : n ≤ 999999999999) (hs0 : 0 < sc) (hs6 : sc ≤ 6) (hf : soundS n sc = true) (hN : mag n = (N : Int)) (T : ByteArray) (hT : ⟨(textS (decide (n < 0)) N sc).toArray⟩ = T) (w : World) (htab : Lib.TabIs Tryz.prog w "internal/strconv.uint64pow10" .u64 Lib.pow10Tab) :
    Calls Tryz.prog 139 #[.agg #[.int .i64 n, .int .i64 sc]] w fun e w' => e = .returned (.tuple #[.string T, .int .i64 0]) ∧ Below w.heap.size w w' := by
  have hm := mag_bd b3 b4
  have hb0 := Blk.new w 23 #[.int .i64 n, .int .i64 sc]
  have HN : Hid (I64 n ∧ I64 sc) := ⟨hn, by unfold I64; omega⟩
  have HT := Lib.hid (Lib.tabBelow_of_tabIs htab)
  obtain ⟨D, hD⟩ : ∃ D : ByteArray, ⟨(decDigits N).toArray⟩ = D := ⟨_, rfl⟩
  have hLe : D.size = nDigits N := by
    rw [← hD]
    show (decDigits N).toArray.size = _
    rw [List.size_toArray, decDigits_length]
  have hL : D.size ≤ 12 := by rw [hLe]; exact nDigits_le (by decide) (by omega)
  obtain ⟨R, hR⟩ : ∃ R : ByteArray, ⟨(List.replicate (sc + 1 - nDigits N) (48 : UInt8)).toArray⟩ = R := ⟨_, rfl⟩
  have hRL : R.size = sc + 1 - nDigits N := by rw [← hR]; show (List.replicate _ (48 : UInt8)).toArray.size = _; simp
  obtain ⟨P, hP⟩ : ∃ P : ByteArray, R ++ D = P := ⟨_, rfl⟩
  have hPM : P.size = max (nDigits N) (sc + 1) := by rw [← hP, ByteArray.size_append]; omega
  obtain ⟨q, hq⟩ : ∃ q : Nat, max (nDigits N) (sc + 1) - sc = q := ⟨_, rfl⟩
  have hPq : P.size = q + sc := by omega
  have hq12 : q ≤ 12 := by omega
  have hU : ((P.extract 0 q ++ ⟨#[46]⟩) ++ P.extract q P.size) = (⟨(textU N sc).toArray⟩ : ByteArray) := by
    apply ByteArray.ext
    apply Array.toList_inj.1
    have hPd : P.data.toList = List.replicate (sc + 1 - nDigits N) 48 ++ decDigits N := by rw [← hP, ← hR, ← hD]; simp
    rw [ByteArray.data_append, ByteArray.data_append, Array.toList_append, Array.toList_append, Lib.extract_from_zero, Lib.extract_to_end, hPd, ← hq]
    exact cut_text hs0
  have HS := Lib.hid (fun w => size_nat n sc (N : Int) b3 b4 hN w)
  have HF := Lib.hid (fun w h => fmt_nat N (N : Int) rfl D (by omega) hD w h)
  have HR := Lib.hid (fun w => repeat_lit (sc + 1 - nDigits N) ((sc + 1 - nDigits N : Nat) : Int) R (by omega) rfl hR w)
  have hmx : max (0 : Int) ((sc : Int) + 1 - (D.size : Int)) = ((sc + 1 - nDigits N : Nat) : Int) := by rw [hLe]; omega
  have HTT := Lib.hid hT
  have HP := Lib.hid hP
  have HU := Lib.hid hU
  have hR12 : R.size ≤ 12 := by omega
  have hP20 : P.size ≤ 20 := by omega
  have hPi : (P.size : Int) - (sc : Int) = (q : Int) := by omega
  have hq0 : (q : Int) ≤ (P.size : Int) := by omega
  have hq1 : (0 : Int) ≤ (q : Int) := by omega
  have hx1 : (P.extract 0 q).size ≤ 20 := by rw [ByteArray.size_extract]; omega
  have hx2 : (P.extract q P.size).size ≤ 20 := by rw [ByteArray.size_extract]; omega
  have hx3 : (P.extract 0 q ++ ⟨#[46]⟩).size ≤ 40 := by rw [ByteArray.size_append]; show (P.extract 0 q).size + 1 ≤ 40; omega
  generalize hcn : sc + 1 - nDigits N = cn at *
  clear htab hn hN hD hT hm hLe hR hRL hP hPM hq hU hcn hPq
  have ha1 : min q P.size ≤ 9223372036854775806 := by omega
  have ha2 : min q P.size + 1 + (P.size - q) ≤ 9223372036854775807 := by omega
  by_cases hneg : n < 0
  · have e : textS (decide (n < 0)) N sc = 45 :: textU N sc := by unfold textS; rw [decide_eq_true hneg]; rfl
    have E := Lib.hid e
    clear e
    go_enter Tryz.func139, Tryz.ntmps139
    go_wp2_with fail
    refine (all_1 n sc HN.out.1 HN.out.2 _ _ 23 _ (Blk.new' _ _ _ (by simp))).mono ?_
    rintro e w1 ⟨rfl, hb⟩
    replace hb0 := (hb0.alloc _).step hb
    rw [if_pos hf]
    clear hf
    have c0 := hb0.cell 0
    have c1 := hb0.cell 1
    simp at c0 c1
    go_wp2_with fail
    refine (HS.out _).mono ?_
    rintro e w2 ⟨rfl, hb2⟩
    go_wp2_with fail
    refine (HF.out _ (HT.out _ (by (repeat' (first | (with_reducible exact Below.refl _ _) | (with_reducible assumption) | (with_reducible refine balloc ?_ _) | (with_reducible refine Below.drew ?_) | (with_reducible refine bset ?_ ?_ _) | (with_reducible refine bstep ?_ (by with_reducible assumption)) | (with_reducible refine bturn ?_ (by with_reducible assumption) ?_) | go_size))))).mono ?_
    rintro e w3 ⟨rfl, hb3⟩
    replace hb0 := (hb0.step hb2).step hb3
    have d0 := hb0.cell 0
    have d1 := hb0.cell 1
    simp at d0 d1
    clear c0 c1
    go_wp2_with fail
    refine (HR.out _).mono ?_
    rintro e w4 ⟨rfl, hb4⟩
    replace hb0 := hb0.step hb4
    have e0 := hb0.cell 0
    have e1 := hb0.cell 1
    simp at e0 e1
    clear d0 d1 hmx
    have hRD := HP.out
    have kP : IntKind.i64.wrap (q : Int) = (q : Int) := IntWalk.i64_in _ (by omega)
    go_wp2_with fail
    go_region
    clear kP hRD
    go_wp2_with fail
    go_returns
    exact ⟨by
      rw [← HTT.out, E.out]
      rw [show (⟨(45 :: textU N sc).toArray⟩ : ByteArray) = ⟨#[45]⟩ ++ ⟨(textU N sc).toArray⟩ from by apply ByteArray.ext; apply Array.toList_inj.1; simp]
      rw [← HU.out]
      rfl, by (repeat' (first | (with_reducible exact Below.refl _ _) | (with_reducible assumption) | (with_reducible refine balloc ?_ _) | (with_reducible refine Below.drew ?_) | (with_reducible refine bset ?_ ?_ _) | (with_reducible refine bstep ?_ (by with_reducible assumption)) | (with_reducible refine bturn ?_ (by with_reducible assumption) ?_) | go_size))⟩
  · have e : textS (decide (n < 0)) N sc = textU N sc := by unfold textS; rw [decide_eq_false hneg]; rfl
    have E := Lib.hid e
    clear e
    go_enter Tryz.func139, Tryz.ntmps139
    go_wp2_with fail
    refine (all_1 n sc HN.out.1 HN.out.2 _ _ 23 _ (Blk.new' _ _ _ (by simp))).mono ?_
    rintro e w1 ⟨rfl, hb⟩
    replace hb0 := (hb0.alloc _).step hb
    rw [if_pos hf]
    clear hf
    have c0 := hb0.cell 0
    have c1 := hb0.cell 1
    simp at c0 c1
    go_wp2_with fail
    refine (HS.out _).mono ?_
    rintro e w2 ⟨rfl, hb2⟩
    go_wp2_with fail
    refine (HF.out _ (HT.out _ (by (repeat' (first | (with_reducible exact Below.refl _ _) | (with_reducible assumption) | (with_reducible refine balloc ?_ _) | (with_reducible refine Below.drew ?_) | (with_reducible refine bset ?_ ?_ _) | (with_reducible refine bstep ?_ (by with_reducible assumption)) | (with_reducible refine bturn ?_ (by with_reducible assumption) ?_) | go_size))))).mono ?_
    rintro e w3 ⟨rfl, hb3⟩
    replace hb0 := (hb0.step hb2).step hb3
    have d0 := hb0.cell 0
    have d1 := hb0.cell 1
    simp at d0 d1
    clear c0 c1
    go_wp2_with fail
    refine (HR.out _).mono ?_
    rintro e w4 ⟨rfl, hb4⟩
    replace hb0 := hb0.step hb4
    have e0 := hb0.cell 0
    have e1 := hb0.cell 1
    simp at e0 e1
    clear d0 d1 hmx
    have hRD := HP.out
    have kP : IntKind.i64.wrap (q : Int) = (q : Int) := IntWalk.i64_in _ (by omega)
    go_wp2_with fail
    go_region
    clear kP hRD
    go_wp2_with fail
    go_returns
    exact ⟨by rw [← HTT.out, E.out, ← HU.out]; rfl, by (repeat' (first | (with_reducible exact Below.refl _ _) | (with_reducible assumption) | (with_reducible refine balloc ?_ _) | (with_reducible refine Below.drew ?_) | (with_reducible refine bset ?_ ?_ _) | (with_reducible refine bstep ?_ (by with_reducible assumption)) | (with_reducible refine bturn ?_ (by with_reducible assumption) ?_) | go_size))⟩

/-- Text of a sound number. -/
theorem text_any (n s : Int) (N sc : Nat) (hn : I64 n) (hs : s = (sc : Int)) (hf : soundS n s = true) (hN : mag n = (N : Int)) (T : ByteArray) (hT : ⟨(textS (decide (n < 0)) N sc).toArray⟩ = T) (w : World) (htab : Lib.TabIs Tryz.prog w "internal/strconv.uint64pow10" .u64 Lib.pow10Tab) :
    Calls Tryz.prog 139 #[.agg #[.int .i64 n, .int .i64 s]] w fun e w' => e = .returned (.tuple #[.string T, .int .i64 0]) ∧ Below w.heap.size w w' := by
  subst hs
  obtain ⟨b1, b2, b3, b4, _⟩ := sound_bd hf
  by_cases h : sc = 0
  · subst h
    exact text_whole n N hn b3 b4 hf hN T hT w htab
  · exact text_part n N sc hn b3 b4 (by omega) (by omega) hf hN T hT w htab
end Go.Proofs.YtkkeplmaphcblaaGreatDoor

namespace Go.Proofs.YtkkeplmaphcblaaGreatDoor
open Go.RowKit
open Go.Lib hiding intOf

theorem indexc_at (c : UInt8) : ∀ (a r : List UInt8), (∀ b ∈ a, b ≠ c) → index (a ++ c :: r) [c] = a.length
  | [], r, _ => by unfold index; simp
  | b :: a, r, h => by
    have hb : ¬ c = b := fun e => h b (by simp) e.symm
    have hp : List.isPrefixOf [c] (b :: (a ++ c :: r)) = false := by simp [List.isPrefixOf, hb]
    have hm : ((a.length : Int) == -1) = false := by rw [beq_eq_false_iff_ne]; omega
    rw [List.cons_append, index, hp, indexc_at c a r fun x hx => h x (by simp [hx]), hm]
    simp
theorem indexc_no (c : UInt8) : ∀ (a : List UInt8), (∀ b ∈ a, b ≠ c) → index a [c] = -1
  | [], _ => rfl
  | b :: a, h => by
    have hb : ¬ c = b := fun e => h b (by simp) e.symm
    have hp : List.isPrefixOf [c] (b :: a) = false := by simp [List.isPrefixOf, hb]
    rw [index, hp, indexc_no c a fun x hx => h x (by simp [hx])]
    simp
theorem allDig_no {c : UInt8} (hc : ¬ (48 ≤ c.toNat ∧ c.toNat ≤ 57)) {l : List UInt8} (h : allDig l = true) : ∀ b ∈ l, b ≠ c := by
  intro b hb e
  subst e
  exact hc (of_decide_eq_true (List.all_eq_true.1 h _ hb))
theorem cut_at {a r : List UInt8} (h : ∀ b ∈ a, b ≠ 46) : Lib.cut (a ++ 46 :: r) [46] = (a, r, true) := by
  unfold Lib.cut
  rw [indexc_at 46 a r h, if_pos (by omega)]
  simp [List.drop_append]
theorem cut_no {a : List UInt8} (h : ∀ b ∈ a, b ≠ 46) : Lib.cut a [46] = (a, [], false) := by
  unfold Lib.cut
  rw [indexc_no 46 a h, if_neg (by omega)]
theorem prefix_hit (l : List UInt8) : Lib.hasPrefix (45 :: l) [45] = true ∧ Lib.trimPrefix (45 :: l) [45] = l := by
  have h : Lib.hasPrefix (45 :: l) [45] = true := by simp [Lib.hasPrefix]
  exact ⟨h, by unfold Lib.trimPrefix; rw [h]; rfl⟩
theorem prefix_miss {b : UInt8} {l : List UInt8} (hb : b ≠ 45) : Lib.hasPrefix (b :: l) [45] = false ∧ Lib.trimPrefix (b :: l) [45] = b :: l := by
  have hb' : ¬ (45 : UInt8) = b := fun e => hb e.symm
  have h : Lib.hasPrefix (b :: l) [45] = false := by simp [Lib.hasPrefix, List.isPrefixOf, hb']
  exact ⟨h, by unfold Lib.trimPrefix; rw [h]; rfl⟩

theorem decFrom_le : ∀ (l : List UInt8) (a n : Nat), decFrom a l = some n → a ≤ n
  | [], a, n, h => by cases h; exact Nat.le_refl _
  | b :: l, a, n, h => by
    rw [decFrom] at h
    cases hd : digitVal b with
    | none => rw [hd] at h; cases h
    | some d =>
      rw [hd] at h
      have := decFrom_le l _ n h
      omega
theorem uintM_of : ∀ (l : List UInt8) (a n : Nat), allDig l = true → decFrom a l = some n → n < 10000000000000000000 → parseUintM (2 ^ 64 - 1) a l = .ok n
  | [], a, n, _, h, _ => by cases h; rfl
  | b :: l, a, n, hd, h, hn => by
    unfold allDig at hd
    rw [List.all_cons, Bool.and_eq_true] at hd
    have hb := of_decide_eq_true hd.1
    rw [decFrom, digitVal, if_pos hb] at h
    have hle := decFrom_le l _ n h
    have h64 : (2 : Nat) ^ 64 - 1 = 18446744073709551615 := by decide
    rw [parseUintM, if_pos hb, if_neg (by omega), if_neg (by rw [h64]; omega)]
    exact uintM_of l _ n hd.2 h hn
theorem uintB_pd {k n : Nat} (hk : 0 < k) (h : n < 10 ^ k) (hn : n < 10000000000000000000) : Lib.parseUintB 64 (pd k n) = .ok n := by
  unfold Lib.parseUintB
  rw [if_neg (by intro e; have := congrArg List.length e; rw [pd_length] at this; simp at this; omega)]
  exact uintM_of _ 0 n (allDig_pd k n) (decFrom_pd k n h) hn

theorem low_nDigits (n : Nat) : n < 10 ∨ 10 ^ (nDigits n - 1) ≤ n := by
  induction n using Nat.strongRecOn with
  | _ n ih =>
    by_cases h : n < 10
    · exact .inl h
    · refine .inr ?_
      rw [nDigits_big h, Nat.add_sub_cancel]
      have hp := nDigits_pos (n / 10)
      rcases ih (n / 10) (by omega) with h2 | h2
      · rw [nDigits_small h2]; omega
      · obtain ⟨k, hk⟩ : ∃ k, nDigits (n / 10) = k + 1 := ⟨nDigits (n / 10) - 1, by omega⟩
        rw [hk] at h2 ⊢
        rw [Nat.add_sub_cancel] at h2
        rw [Nat.pow_succ]
        omega
/-- No leading nought. -/
theorem head_dec {n : Nat} (h : 1 < nDigits n) : ∃ d l, decDigits n = UInt8.ofNat (48 + d) :: l ∧ 1 ≤ d ∧ d ≤ 9 := by
  obtain ⟨k, hk⟩ : ∃ k, nDigits n = k + 1 := ⟨nDigits n - 1, by omega⟩
  have h1 := low_nDigits n
  have h2 := lt_pow_nDigits n
  rw [hk] at h1 h2
  rw [Nat.add_sub_cancel] at h1
  have h3 : 10 ^ k ≤ n := by
    rcases h1 with h1 | h1
    · rw [nDigits_small h1] at h; omega
    · exact h1
  have hp : 0 < 10 ^ k := Nat.pow_pos (by decide)
  have h4 : 1 ≤ n / 10 ^ k := (Nat.le_div_iff_mul_le hp).2 (by omega)
  have h5 : n / 10 ^ k < 10 := (Nat.div_lt_iff_lt_mul hp).2 (by rw [Nat.pow_succ] at h2; omega)
  refine ⟨n / 10 ^ k % 10, pd k n, ?_, by omega, by omega⟩
  rw [dec_pd, hk, pd_cons]
theorem head_any (n : Nat) : ∃ d l, decDigits n = UInt8.ofNat (48 + d) :: l ∧ d ≤ 9 := by
  obtain ⟨k, hk⟩ : ∃ k, nDigits n = k + 1 := ⟨nDigits n - 1, by have := nDigits_pos n; omega⟩
  exact ⟨n / 10 ^ k % 10, pd k n, by rw [dec_pd, hk, pd_cons], by omega⟩
theorem digB_of {s : ByteArray} (hne : s.data.toList ≠ []) (h : allDig s.data.toList = true) : digB s = true := by
  unfold digB
  rw [trim_digits, h, Lib.toList_data]
  cases hc : s.data.toList with
  | nil => exact absurd hc hne
  | cons a t => rfl

/-- How a written number is cut up. -/
theorem cut_of {minus : Bool} {N sc : Nat} (hN : N < 1000000000000) (hs : sc ≤ 6) (hz : sc = 0 ∨ ¬ N % 10 = 0) (T : ByteArray) (hT : ⟨(textS minus N sc).toArray⟩ = T) :
    ∃ r wh pa pt : ByteArray, ∃ dot : Bool, CutUp T r wh pa pt minus dot ∧ digB wh = true ∧ (dot = false ∨ dot = true ∧ digB pa = true) ∧ wh.size ≤ 12 ∧ pt.size = sc ∧ Lib.parseUintB 64 (wh ++ pt).data.toList = .ok N ∧ (¬ 1 < wh.size ∨ ∃ h : 1 < wh.size, ¬ (wh[0]'(by omega)).toNat = 48) := by
  subst hT
  have hW : N / 10 ^ sc < 10 ^ 12 := Nat.lt_of_le_of_lt (Nat.div_le_self _ _) (by omega)
  have hWd := nDigits_le (by decide) hW
  have hdw : allDig (decDigits (N / 10 ^ sc)) = true := by rw [dec_pd]; exact allDig_pd _ _
  have hne : decDigits (N / 10 ^ sc) ≠ [] := by
    intro e
    have := congrArg List.length e
    rw [decDigits_length] at this
    have h2 := nDigits_pos (N / 10 ^ sc)
    simp at this
    omega
  have h46 : ∀ b ∈ decDigits (N / 10 ^ sc), b ≠ 46 := allDig_no (by decide) hdw
  have hpa : (if sc = 0 then [] else pd sc N).length = sc := by
    split
    · rename_i h; rw [h]; rfl
    · exact pd_length _ _
  have hcut : Lib.cut (textU N sc) [46] = (decDigits (N / 10 ^ sc), (if sc = 0 then [] else pd sc N), decide (¬ sc = 0)) := by
    unfold textU
    by_cases h0 : sc = 0
    · subst h0
      simp only [if_true, Nat.pow_zero, Nat.div_one] at h46 ⊢
      rw [cut_no h46]
      rfl
    · rw [if_neg h0, if_neg h0, cut_at h46, decide_eq_true h0]
  have htrim : Lib.trimRightB (if sc = 0 then [] else pd sc N) 48 = (if sc = 0 then [] else pd sc N) := by
    by_cases h0 : sc = 0
    · rw [if_pos h0]; rfl
    · rw [if_neg h0]
      obtain ⟨k, hk⟩ : ∃ k, sc = k + 1 := ⟨sc - 1, by omega⟩
      have hlast : ¬ UInt8.ofNat (48 + N % 10) = 48 := by
        intro e
        have := congrArg UInt8.toNat e
        rw [dig_ofNat (by omega)] at this
        have h2 : (48 : UInt8).toNat = 48 := rfl
        omega
      unfold Lib.trimRightB
      rw [hk, pd, List.reverse_append, List.reverse_singleton, List.singleton_append, List.dropWhile_cons]
      have : (UInt8.ofNat (48 + N % 10) == 48) = false := by rw [beq_eq_false_iff_ne]; exact hlast
      rw [this]
      simp
  have hpre : Lib.hasPrefix (textS minus N sc) [45] = minus ∧ Lib.trimPrefix (textS minus N sc) [45] = textU N sc := by
    unfold textS
    cases minus with
    | true => exact prefix_hit _
    | false =>
      obtain ⟨d, l, hd, hd9⟩ := head_any (N / 10 ^ sc)
      have hb : UInt8.ofNat (48 + d) ≠ 45 := by
        intro e
        have := congrArg UInt8.toNat e
        rw [dig_ofNat (by omega)] at this
        have h2 : (45 : UInt8).toNat = 45 := rfl
        omega
      have hu : ∃ l', textU N sc = UInt8.ofNat (48 + d) :: l' := by
        unfold textU
        by_cases h0 : sc = 0
        · subst h0
          simp only [Nat.pow_zero, Nat.div_one] at hd
          exact ⟨l, by rw [if_pos rfl, hd]⟩
        · exact ⟨_, by rw [if_neg h0, hd, List.cons_append]⟩
      obtain ⟨l', hl'⟩ := hu
      simp only [Bool.false_eq_true, if_false]
      rw [hl']
      exact prefix_miss hb
  have hlenU : (textU N sc).length ≤ 20 := by
    unfold textU
    split
    · rename_i h0; subst h0; simp only [Nat.pow_zero, Nat.div_one] at hWd; rw [decDigits_length]; omega
    · rw [List.length_append, decDigits_length, List.length_cons, pd_length]; omega
  refine ⟨⟨(textU N sc).toArray⟩, ⟨(decDigits (N / 10 ^ sc)).toArray⟩, ⟨(if sc = 0 then [] else pd sc N).toArray⟩, ⟨(if sc = 0 then [] else pd sc N).toArray⟩, decide (¬ sc = 0), ⟨hpre.2, hpre.1, hcut, htrim, ?_, ?_, ?_, ?_⟩, digB_of hne hdw, ?_, ?_, ?_, ?_, ?_⟩
  · show (textU N sc).toArray.size < _; rw [List.size_toArray]; omega
  · show (decDigits (N / 10 ^ sc)).toArray.size ≤ _; rw [List.size_toArray, decDigits_length]; omega
  · show (if sc = 0 then [] else pd sc N).toArray.size ≤ _; rw [List.size_toArray, hpa]; omega
  · show (if sc = 0 then [] else pd sc N).toArray.size ≤ _; rw [List.size_toArray, hpa]; omega
  · by_cases h0 : sc = 0
    · exact .inl (decide_eq_false (by simpa using h0))
    · refine .inr ⟨decide_eq_true h0, digB_of ?_ ?_⟩
      · show (if sc = 0 then [] else pd sc N) ≠ []
        rw [if_neg h0]
        intro e
        have := congrArg List.length e
        rw [pd_length] at this
        simp at this
        omega
      · show allDig (if sc = 0 then [] else pd sc N) = true
        rw [if_neg h0]
        exact allDig_pd _ _
  · show (decDigits (N / 10 ^ sc)).toArray.size ≤ 12; rw [List.size_toArray, decDigits_length]; exact hWd
  · show (if sc = 0 then [] else pd sc N).toArray.size = sc; rw [List.size_toArray, hpa]
  · have e : ((⟨(decDigits (N / 10 ^ sc)).toArray⟩ : ByteArray) ++ ⟨(if sc = 0 then [] else pd sc N).toArray⟩).data.toList = pd (nDigits (N / 10 ^ sc) + sc) N := by
      rw [ByteArray.data_append, Array.toList_append, pd_add, ← dec_pd]
      congr 1
      show (if sc = 0 then [] else pd sc N) = pd sc N
      split
      · rename_i h0; rw [h0]; rfl
      · rfl
    rw [e]
    refine uintB_pd (by have := nDigits_pos (N / 10 ^ sc); omega) ?_ (by omega)
    have h2 := nDigits_div (N := N) (sc := sc)
    rw [h2]
    exact Nat.lt_of_lt_of_le (lt_pow_nDigits N) (Nat.pow_le_pow_right (by decide) (Nat.le_max_left _ _))
  · by_cases h1 : 1 < nDigits (N / 10 ^ sc)
    · right
      have hsz : 1 < (⟨(decDigits (N / 10 ^ sc)).toArray⟩ : ByteArray).size := by
        show 1 < (decDigits (N / 10 ^ sc)).toArray.size; rw [List.size_toArray, decDigits_length]; exact h1
      refine ⟨hsz, ?_⟩
      obtain ⟨d, l, hd, h1d, h9d⟩ := head_dec h1
      have hb := Lib.data_getElem? (⟨(decDigits (N / 10 ^ sc)).toArray⟩ : ByteArray) 0 (by omega)
      have hb2 : (decDigits (N / 10 ^ sc))[0]? = some (UInt8.ofNat (48 + d)) := by rw [hd]; rfl
      have hb3 : (⟨(decDigits (N / 10 ^ sc)).toArray⟩ : ByteArray)[0] = UInt8.ofNat (48 + d) := Option.some.inj (hb.symm.trans hb2)
      rw [hb3, dig_ofNat (by omega)]
      omega
    · left
      show ¬ 1 < (decDigits (N / 10 ^ sc)).toArray.size
      rw [List.size_toArray, decDigits_length]
      exact h1

/-- A number's shortest form, out of itself. -/
theorem dec_self {n s : Int} {N sc : Nat} (h : soundS n s = true) (hs : s = (sc : Int)) (hN : mag n = (N : Int)) : decS sc N (decide (n < 0)) = ⟨n, s, 0⟩ := by
  obtain ⟨b1, b2, b3, b4, _⟩ := sound_bd h
  have hm := make_ok (n := n) (s := s) ⟨b1, b2, b3, b4⟩
  unfold soundS at h
  rw [hm, hN, show s.toNat = sc by omega] at h
  simp only [Bool.and_eq_true, beq_iff_eq] at h
  obtain ⟨h1, h2, h3⟩ := h
  cases hd : decS sc N (decide (n < 0)) with
  | mk a b c =>
    rw [hd] at h1 h2 h3
    simp only at h1 h2 h3
    rw [h1, h2, h3]

theorem parse_back (n s : Int) (N sc : Nat) (h : soundS n s = true) (hs : s = (sc : Int)) (hN : mag n = (N : Int)) (T : ByteArray) (hT : ⟨(textS (decide (n < 0)) N sc).toArray⟩ = T) (m : Int) (w : World) (hm : w.cell? ⟨1, 0, none⟩ = some (.int .i64 m)) :
    Calls Tryz.prog 201 #[.string T] w fun e w' => e = .returned (.tuple #[.agg #[.int .i64 n, .int .i64 s], .int .i64 0]) ∧ Below w.heap.size w w' := by
  obtain ⟨b1, b2, b3, b4, b5⟩ := sound_bd h
  have hmb := mag_bd b3 b4
  have hmod : sc = 0 ∨ ¬ N % 10 = 0 := by
    rcases b5 with b5 | b5
    · exact .inl (by omega)
    · refine .inr ?_
      unfold mag at hN
      split at hN <;> omega
  obtain ⟨r, wh, pa, pt, dot, H, hw, hp, h12, hpt, hu, hz⟩ := cut_of (minus := decide (n < 0)) (by omega) (by omega) hmod T hT
  have hd := dec_self h hs hN
  rw [← hpt] at hd
  rcases hz with hz | ⟨hz, hz2⟩
  · have := parse_Fo H hw hp hz (by omega) h12 N hu (by omega) m w hm
    rw [hd] at this
    exact this
  · have := parse_Ft H hw hp hz hz2 (by omega) h12 N hu (by omega) m w hm
    rw [hd] at this
    exact this
end Go.Proofs.YtkkeplmaphcblaaGreatDoor

namespace Go.Proofs.YtkkeplmaphcblaaGreatDoor
open Go.RowKit
open Go.Lib hiding intOf

theorem first_46 : ∀ (l : List UInt8), (46 : UInt8) ∈ l → ∃ a b, l = a ++ 46 :: b ∧ ∀ x ∈ a, x ≠ 46
  | [], h => by cases h
  | c :: l, h => by
    by_cases hc : c = 46
    · subst hc; exact ⟨[], l, rfl, by simp⟩
    · have h2 : (46 : UInt8) ∈ l := by
        rcases List.mem_cons.1 h with h | h
        · exact absurd h.symm hc
        · exact h
      obtain ⟨a, b, h3, h4⟩ := first_46 l h2
      refine ⟨c :: a, b, by rw [h3]; rfl, ?_⟩
      intro x hx
      rcases List.mem_cons.1 hx with h | h
      · rw [h]; exact hc
      · exact h4 x h
theorem byte_list (l : List UInt8) (j : Nat) : byteAt ⟨l.toArray⟩ j = l.getD j 0 := rfl
theorem getD_left {l r : List UInt8} {j : Nat} (h : j < l.length) : (l ++ r).getD j 0 = l.getD j 0 := by
  rw [List.getD_eq_getElem?_getD, List.getD_eq_getElem?_getD, List.getElem?_append_left h]
theorem getD_right {l r : List UInt8} {j : Nat} (h : l.length ≤ j) : (l ++ r).getD j 0 = r.getD (j - l.length) 0 := by
  rw [List.getD_eq_getElem?_getD, List.getD_eq_getElem?_getD, List.getElem?_append_right h]
theorem getD_mem {l : List UInt8} {j : Nat} (h : j < l.length) : l.getD j 0 ∈ l := by
  rw [List.getD_eq_getElem?_getD, List.getElem?_eq_getElem h]
  exact List.getElem_mem h
theorem mem_getD {l : List UInt8} {x : UInt8} (h : x ∈ l) : ∃ j, j < l.length ∧ l.getD j 0 = x := by
  obtain ⟨j, hj, hx⟩ := List.getElem_of_mem h
  exact ⟨j, hj, by rw [List.getD_eq_getElem?_getD, List.getElem?_eq_getElem hj]; exact hx⟩
theorem allDig_getD {l : List UInt8} : allDig l = true ↔ ∀ j, j < l.length → isD (l.getD j 0) = true := by
  constructor
  · intro h j hj
    exact List.all_eq_true.1 h _ (getD_mem hj)
  · intro h
    apply List.all_eq_true.2
    intro x hx
    obtain ⟨j, hj, e⟩ := mem_getD hx
    rw [← e]
    exact h j hj

/-- What the digits of a numeral are. -/
theorem digits_of : ∀ (n : Nat) (l : List UInt8), l.length = n → allDig l = true → ∃ u, decFrom 0 l = some u ∧ u < 10 ^ n ∧ ∀ i, i < n → (l.getD i 0).toNat - 48 = dig u (n - 1 - i)
  | 0, l, hn, _ => by
    rw [List.length_eq_zero_iff] at hn
    subst hn
    exact ⟨0, rfl, by simp, by omega⟩
  | n + 1, l, hn, hd => by
    rcases List.eq_nil_or_concat l with h | ⟨l', b, h⟩
    · rw [h] at hn; simp at hn
    · rw [List.concat_eq_append] at h
      subst h
      have hn' : l'.length = n := by simpa using hn
      unfold allDig at hd
      rw [List.all_append, Bool.and_eq_true] at hd
      obtain ⟨u, h1, h2, h3⟩ := digits_of n l' hn' hd.1
      have hb : 48 ≤ b.toNat ∧ b.toNat ≤ 57 := by
        have := hd.2
        simp only [List.all_cons, List.all_nil, Bool.and_true, decide_eq_true_eq] at this
        exact this
      refine ⟨u * 10 + (b.toNat - 48), ?_, by rw [Nat.pow_succ]; omega, ?_⟩
      · rw [decFrom_append _ _ _ _ h1, decFrom, digitVal, if_pos hb]
        rfl
      · intro i hi
        by_cases hin : i = n
        · subst hin
          rw [getD_right (by omega), hn', Nat.sub_self]
          show b.toNat - 48 = dig (u * 10 + (b.toNat - 48)) (i + 1 - 1 - i)
          rw [show i + 1 - 1 - i = 0 by omega]
          unfold dig
          simp
          omega
        · rw [getD_left (by omega), h3 i (by omega)]
          rw [show n + 1 - 1 - i = (n - 1 - i) + 1 by omega]
          unfold dig
          rw [Nat.pow_succ', ← Nat.div_div_eq_div_mul, show (u * 10 + (b.toNat - 48)) / 10 = u by omega]
theorem trim_sub (l : List UInt8) : ∃ t, l = Lib.trimRightB l 48 ++ t := by
  unfold Lib.trimRightB
  refine ⟨(l.reverse.takeWhile (· == 48)).reverse, ?_⟩
  rw [← List.reverse_append, List.takeWhile_append_dropWhile, List.reverse_reverse]
theorem digB_iff {s : ByteArray} : digB s = true ↔ s.size ≠ 0 ∧ allDig s.data.toList = true := by
  unfold digB
  rw [trim_digits, Lib.toList_data, Bool.and_eq_true]
  have : s.data.toList.length = s.size := by simp
  constructor
  · rintro ⟨h1, h2⟩
    refine ⟨?_, h2⟩
    intro h0
    rw [h0, List.length_eq_zero_iff] at this
    rw [this] at h1
    cases h1
  · rintro ⟨h1, h2⟩
    refine ⟨?_, h2⟩
    cases hc : s.data.toList with
    | nil => rw [hc] at this; simp at this; omega
    | cons a t => rfl

/-- The parts of a text, on both sides. -/
structure Parts2 (s r wh pa pt : ByteArray) (minus dot : Bool) : Prop where
  cut : CutUp s r wh pa pt minus dot
  m1 : minus = true → 0 < s.size ∧ byteAt s 0 = 45 ∧ s.extract 1 s.size = r
  m0 : minus = false → s = r ∧ (s.size = 0 ∨ byteAt s 0 ≠ 45)
  w1 : wh.size ≤ r.size
  w2 : dot = true → wh.size < r.size ∧ byteAt r wh.size = 46 ∧ r.extract 0 wh.size = wh ∧ r.extract (wh.size + 1) r.size = pa
  w3 : dot = false → r = wh ∧ pa = ⟨#[]⟩
  w4 : ∀ j, j < wh.size → byteAt r j ≠ 46
  all : (∀ j, j < r.size → okJ r wh.size dot j) ↔ allDig wh.data.toList = true ∧ (dot = true → allDig pa.data.toList = true)

theorem parts_ex (s : ByteArray) (hs : s.size < 4294967281) : ∃ r wh pa pt minus dot, Parts2 s r wh pa pt minus dot := by
  obtain ⟨minus, hmi⟩ : ∃ b, Lib.hasPrefix s.data.toList [45] = b := ⟨_, rfl⟩
  obtain ⟨rl, hrl⟩ : ∃ l, Lib.trimPrefix s.data.toList [45] = l := ⟨_, rfl⟩
  have hsl : s.data.toList.length = s.size := by simp
  have hrle : rl.length ≤ s.size := by rw [← hrl, ← hsl]; exact Lib.trimPrefix_le _ _
  have hm1 : minus = true → 0 < s.size ∧ byteAt s 0 = 45 ∧ s.extract 1 s.size = ⟨rl.toArray⟩ := by
    intro h
    rw [h] at hmi
    have hl : ∃ t, s.data.toList = 45 :: t := by
      cases hc : s.data.toList with
      | nil => rw [hc] at hmi; cases hmi
      | cons a t =>
        rw [hc] at hmi
        have : (45 : UInt8) = a := by simpa [Lib.hasPrefix, List.isPrefixOf] using hmi
        exact ⟨t, by rw [this]⟩
    obtain ⟨t, ht⟩ := hl
    have hrt : rl = t := by rw [← hrl, ht]; exact (prefix_hit t).2
    refine ⟨by rw [← hsl, ht]; simp, by unfold byteAt; rw [ht]; rfl, ?_⟩
    apply ByteArray.ext
    apply Array.toList_inj.1
    rw [Lib.extract_to_end, ht, hrt]
    rfl
  have hm0 : minus = false → s = ⟨rl.toArray⟩ ∧ (s.size = 0 ∨ byteAt s 0 ≠ 45) := by
    intro h
    rw [h] at hmi
    have hrs : rl = s.data.toList := by rw [← hrl]; unfold Lib.trimPrefix; rw [hmi]; rfl
    refine ⟨by apply ByteArray.ext; apply Array.toList_inj.1; rw [hrs], ?_⟩
    cases hc : s.data.toList with
    | nil => left; rw [← hsl, hc]; rfl
    | cons a t =>
      right
      unfold byteAt
      rw [hc]
      intro e
      have e2 : a = 45 := e
      rw [hc, e2] at hmi
      simp [Lib.hasPrefix] at hmi
  by_cases h46 : (46 : UInt8) ∈ rl
  · obtain ⟨a, b, hab, hna⟩ := first_46 rl h46
    have hlen : rl.length = a.length + 1 + b.length := by rw [hab]; simp; omega
    refine ⟨⟨rl.toArray⟩, ⟨a.toArray⟩, ⟨b.toArray⟩, ⟨(Lib.trimRightB b 48).toArray⟩, minus, true, ⟨hrl, hmi, ?_, rfl, ?_, ?_, ?_, ?_⟩, hm1, hm0, ?_, ?_, ?_, ?_, ?_⟩
    · show Lib.cut rl [46] = (a, b, true)
      rw [hab]; exact cut_at hna
    · show rl.toArray.size < _; rw [List.size_toArray]; omega
    · show a.toArray.size ≤ _; rw [List.size_toArray]; omega
    · show b.toArray.size ≤ _; rw [List.size_toArray]; omega
    · show (Lib.trimRightB b 48).toArray.size ≤ _
      rw [List.size_toArray]
      obtain ⟨t, ht⟩ := trim_sub b
      have := congrArg List.length ht
      rw [List.length_append] at this
      omega
    · show a.toArray.size ≤ rl.toArray.size; rw [List.size_toArray, List.size_toArray]; omega
    · intro _
      refine ⟨?_, ?_, ?_, ?_⟩
      · show a.toArray.size < rl.toArray.size; rw [List.size_toArray, List.size_toArray]; omega
      · show rl.getD a.toArray.size 0 = 46
        rw [List.size_toArray, hab, getD_right (Nat.le_refl _), Nat.sub_self]
        rfl
      · apply ByteArray.ext
        apply Array.toList_inj.1
        rw [Lib.extract_from_zero]
        show rl.take a.toArray.size = a
        rw [List.size_toArray, hab]
        simp
      · apply ByteArray.ext
        apply Array.toList_inj.1
        rw [Lib.extract_to_end]
        show rl.drop (a.toArray.size + 1) = b
        rw [List.size_toArray, hab, List.drop_append]
        simp
    · intro h; cases h
    · intro j hj
      have hj' : j < a.length := hj
      show rl.getD j 0 ≠ 46
      rw [hab, getD_left hj']
      exact hna _ (getD_mem hj')
    · show (∀ j, j < rl.length → okJ ⟨rl.toArray⟩ a.length true j) ↔ allDig a = true ∧ (true = true → allDig b = true)
      rw [allDig_getD, allDig_getD]
      constructor
      · intro h
        refine ⟨fun j hj => ?_, fun _ j hj => ?_⟩
        · rcases h j (by omega) with ⟨_, e⟩ | e
          · omega
          · rw [byte_list, hab, getD_left hj] at e; exact e
        · rcases h (a.length + 1 + j) (by omega) with ⟨_, e⟩ | e
          · omega
          · rw [byte_list, hab, getD_right (by omega), show a.length + 1 + j - a.length = j + 1 by omega] at e
            exact e
      · rintro ⟨h1, h2⟩ j hj
        by_cases hja : j < a.length
        · right; rw [byte_list, hab, getD_left hja]; exact h1 j hja
        · by_cases hje : j = a.length
          · left; exact ⟨rfl, hje⟩
          · right
            obtain ⟨i, rfl⟩ : ∃ i, j = a.length + 1 + i := ⟨j - a.length - 1, by omega⟩
            rw [byte_list, hab, getD_right (by omega), show a.length + 1 + i - a.length = i + 1 by omega]
            exact h2 rfl i (by omega)
  · have hna : ∀ x ∈ rl, x ≠ 46 := fun x hx e => h46 (e ▸ hx)
    refine ⟨⟨rl.toArray⟩, ⟨rl.toArray⟩, ⟨#[]⟩, ⟨#[]⟩, minus, false, ⟨hrl, hmi, ?_, rfl, ?_, ?_, ?_, ?_⟩, hm1, hm0, Nat.le_refl _, ?_, ?_, ?_, ?_⟩
    · show Lib.cut rl [46] = (rl, [], false)
      exact cut_no hna
    · show rl.toArray.size < _; rw [List.size_toArray]; omega
    · show rl.toArray.size ≤ _; rw [List.size_toArray]; omega
    · show (0 : Nat) ≤ _; omega
    · show (0 : Nat) ≤ _; omega
    · intro h; cases h
    · intro _; exact ⟨rfl, rfl⟩
    · intro j hj
      exact hna _ (getD_mem hj)
    · show (∀ j, j < rl.length → okJ ⟨rl.toArray⟩ rl.length false j) ↔ allDig rl = true ∧ (false = true → allDig [] = true)
      rw [allDig_getD]
      constructor
      · intro h
        refine ⟨fun j hj => ?_, fun h => by cases h⟩
        rcases h j hj with ⟨e, _⟩ | e
        · cases e
        · exact e
      · rintro ⟨h1, _⟩ j hj
        exact .inr (h1 j hj)
end Go.Proofs.YtkkeplmaphcblaaGreatDoor

namespace Go.Proofs.YtkkeplmaphcblaaGreatDoor
open Go.RowKit
open Go.Lib hiding intOf
attribute [local go_sem high] run_dec_eql run_dec_neq

def lead (wh : ByteArray) : Prop := 1 < wh.size ∧ byteAt wh 0 = 48
theorem lead_ways {wh : ByteArray} (h : ¬ lead wh) : ¬ 1 < wh.size ∨ ∃ h1 : 1 < wh.size, ¬ (wh[0]'(by omega)).toNat = 48 := by
  by_cases h1 : 1 < wh.size
  · right
    refine ⟨h1, fun e => h ⟨h1, ?_⟩⟩
    rw [byteAt_eq wh 0 (by omega)]
    exact UInt8.toNat_inj.1 e
  · exact .inl h1

theorem reads (s : ByteArray) (m : Int) (hs : s.size < 4294967281) : ∃ R : Res, (∀ w : World, w.cell? ⟨1, 0, none⟩ = some (.int .i64 m) → Calls Tryz.prog 201 #[.string s] w fun x w' => x = .returned (.tuple #[.agg #[.int .i64 R.n, .int .i64 R.s], .int .i64 R.e]) ∧ Below w.heap.size w w') ∧ (∀ _ : World, True) := by
  obtain ⟨r, wh, pa, pt, minus, dot, P⟩ := parts_ex s hs
  have C := P.cut
  by_cases good : (allDig wh.data.toList = true ∧ (dot = true → allDig pa.data.toList = true)) ∧ ¬ (dot = true ∧ pa.size = 0) ∧ wh.size ≠ 0 ∧ ¬ lead wh
  · obtain ⟨g1, g2, g3, g4⟩ := good
    have dw : digB wh = true := digB_iff.2 ⟨g3, g1.1⟩
    have dp : dot = false ∨ dot = true ∧ digB pa = true := by
      cases hd : dot with
      | false => exact .inl rfl
      | true => exact .inr ⟨rfl, digB_iff.2 ⟨fun h0 => g2 ⟨hd, h0⟩, g1.2 hd⟩⟩
    by_cases big : 6 < pt.size ∨ 12 < wh.size
    · refine ⟨⟨0, 0, 3⟩, fun w hm => ?_, fun w => ?_⟩
      · rcases lead_ways g4 with l1 | ⟨l1, l2⟩
        · have h6 : 6 < pt.size := by omega
          exact parse_Do C dw dp l1 h6 m w hm
        · by_cases h6 : 6 < pt.size
          · exact parse_Dt C dw dp l1 l2 h6 m w hm
          · exact parse_Et C dw dp l1 l2 (by omega) (by omega) m w hm
      · exact trivial
    · obtain ⟨t, ht⟩ := trim_sub pa.data.toList
      rw [C.h4] at ht
      have hpt : allDig pt.data.toList = true := by
        rcases dp with hd | ⟨_, hd⟩
        · have hpa := (P.w3 hd).2
          have h0 : pt.data.toList = [] := by rw [← C.h4, hpa]; rfl
          rw [h0]; rfl
        · have := (digB_iff.1 hd).2
          rw [ht] at this
          unfold allDig at this ⊢
          rw [List.all_append, Bool.and_eq_true] at this
          exact this.1
      have hall : allDig (wh ++ pt).data.toList = true := by
        rw [ByteArray.data_append, Array.toList_append]
        unfold allDig at g1 hpt ⊢
        rw [List.all_append, Bool.and_eq_true]
        exact ⟨g1.1, hpt⟩
      have hsz : (wh ++ pt).data.toList.length = (wh ++ pt).size := by simp
      obtain ⟨u, u1, u2, u3⟩ := digits_of (wh ++ pt).size (wh ++ pt).data.toList hsz hall
      have hsize : (wh ++ pt).size = wh.size + pt.size := ByteArray.size_append
      have hle : 10 ^ (wh ++ pt).size ≤ 10 ^ 18 := Nat.pow_le_pow_right (by decide) (by omega)
      have hu : Lib.parseUintB 64 (wh ++ pt).data.toList = .ok u := by
        unfold Lib.parseUintB
        rw [if_neg (by intro e; rw [e] at hsz; simp at hsz; omega)]
        exact uintM_of _ 0 u hall u1 (by omega)
      have h40 : (10 : Nat) ^ 18 < 10 ^ 40 := by decide
      refine ⟨decS pt.size (u : Int) minus, fun w hm => ?_, fun w => ?_⟩
      · rcases lead_ways g4 with l1 | ⟨l1, l2⟩
        · exact parse_Fo C dw dp l1 (by omega) (by omega) u hu (by omega) m w hm
        · exact parse_Ft C dw dp l1 l2 (by omega) (by omega) u hu (by omega) m w hm
      · exact trivial
  · refine ⟨⟨0, 0, 5⟩, fun w hm => ?_, fun w => ?_⟩
    · cases dw : digB wh with
      | false => exact parse_A C dw m w hm
      | true =>
        by_cases hd : dot = true ∧ digB pa = false
        · exact parse_B C dw hd.1 hd.2 m w hm
        · have dp : dot = false ∨ dot = true ∧ digB pa = true := by
            cases hdt : dot with
            | false => exact .inl rfl
            | true =>
              cases hpa : digB pa with
              | true => exact .inr ⟨rfl, rfl⟩
              | false => exact absurd ⟨hdt, hpa⟩ hd
          by_cases hl : lead wh
          · refine parse_C C dw dp hl.1 ?_ m w hm
            have := hl.2
            rw [byteAt_eq wh 0 (by have := hl.1; omega)] at this
            rw [this]; rfl
          · exfalso
            have w0 := digB_iff.1 dw
            apply good
            refine ⟨⟨w0.2, fun hdt => ?_⟩, fun h => ?_, w0.1, hl⟩
            · rcases dp with h | ⟨_, h⟩
              · rw [hdt] at h; cases h
              · exact (digB_iff.1 h).2
            · rcases dp with h2 | ⟨_, h2⟩
              · rw [h.1] at h2; cases h2
              · exact (digB_iff.1 h2).1 h.2
    · exact trivial

end Go.Proofs.YtkkeplmaphcblaaGreatDoor

namespace Go.Proofs.YtkkeplmaphcblaaGreatDoor.Days

/-- Whole years that are longer. -/
def leapB (y : Int) : Bool := decide (y % 4 = 0 ∧ (¬ y % 100 = 0 ∨ y % 400 = 0))
def lenS (y m : Int) : Int := if m = 2 then (if leapB y = true then 29 else 28) else if m = 4 ∨ m = 6 ∨ m = 9 ∨ m = 11 then 30 else 31
def firstS (y : Int) : Int := 365 * (y - 1) + (y - 1) / 4 - (y - 1) / 100 + (y - 1) / 400
def yearS (y : Int) : Int := if leapB y = true then 366 else 365
/-- The days of the first months. -/
def cumS (y : Int) : Nat → Int
  | 0 => 0
  | m + 1 => cumS y m + lenS y (m + 1)

theorem leap_iff (y : Int) : leapB y = true ↔ y % 4 = 0 ∧ (¬ y % 100 = 0 ∨ y % 400 = 0) := decide_eq_true_iff
theorem len_bd (y m : Int) : 28 ≤ lenS y m ∧ lenS y m ≤ 31 := by
  unfold lenS
  split
  · split <;> omega
  · split <;> omega
theorem first_succ (y : Int) : firstS (y + 1) = firstS y + yearS y := by
  unfold firstS yearS
  by_cases h : leapB y = true
  · rw [if_pos h]; rw [leap_iff] at h; omega
  · rw [if_neg h]; rw [leap_iff] at h; omega
theorem year_bd (y : Int) : 365 ≤ yearS y ∧ yearS y ≤ 366 := by unfold yearS; split <;> omega
theorem cum_12 (y : Int) : cumS y 12 = yearS y := by
  unfold yearS
  by_cases h : leapB y = true
  · simp [cumS, lenS, h]
  · simp [cumS, lenS, h]
theorem cum_succ (y : Int) (m : Nat) : cumS y (m + 1) = cumS y m + lenS y (m + 1) := rfl
theorem cum_mono (y : Int) {a b : Nat} (h : a ≤ b) : cumS y a ≤ cumS y b := by
  induction h with
  | refl => exact Int.le_refl _
  | @step m _ ih => rw [cum_succ]; have := len_bd y (m + 1); omega
theorem cum_bd (y : Int) (m : Nat) : 0 ≤ cumS y m ∧ cumS y m ≤ 31 * m := by
  induction m with
  | zero => simp [cumS]
  | succ k ih => rw [cum_succ]; have := len_bd y (k + 1); omega
theorem first_mono {a b : Int} (h : a ≤ b) : firstS a ≤ firstS b := by unfold firstS; omega
theorem first_1 : firstS 1 = 0 := by decide
theorem first_10000 : firstS 10000 = 3652059 := by decide
theorem first_ge {y : Int} (h : 1 ≤ y) : 365 * (y - 1) ≤ firstS y := by unfold firstS; omega
theorem first_le {y : Int} (h : 1 ≤ y) : firstS y ≤ 366 * (y - 1) := by unfold firstS; omega

/-- A date. -/
def okD (y m d : Int) : Prop := 1 ≤ y ∧ y ≤ 9999 ∧ 1 ≤ m ∧ m ≤ 12 ∧ 1 ≤ d ∧ d ≤ lenS y m
instance (y m d : Int) : Decidable (okD y m d) := by unfold okD; exact inferInstance
def dayN (y m d : Int) : Int := firstS y + cumS y (m - 1).toNat + (d - 1)

theorem year_of (n : Int) (h0 : 0 ≤ n) : ∀ k : Nat, n < firstS (k + 1) → ∃ y : Int, 1 ≤ y ∧ y ≤ k ∧ firstS y ≤ n ∧ n < firstS (y + 1)
  | 0, h => by have h1 : firstS ((0 : Nat) + 1 : Int) = 0 := first_1; omega
  | k + 1, h => by
    by_cases hk : firstS (k + 1) ≤ n
    · exact ⟨k + 1, by omega, by omega, hk, by simpa using h⟩
    · obtain ⟨y, a, b, c, d⟩ := year_of n h0 k (by omega)
      exact ⟨y, a, by omega, c, d⟩
theorem month_of (y n : Int) (h0 : 0 ≤ n) : ∀ k : Nat, n < cumS y k → ∃ m : Nat, m < k ∧ cumS y m ≤ n ∧ n < cumS y (m + 1)
  | 0, h => by simp only [cumS] at h; omega
  | k + 1, h => by
    by_cases hk : cumS y k ≤ n
    · exact ⟨k, by omega, hk, h⟩
    · obtain ⟨m, a, b, c⟩ := month_of y n h0 k (by omega)
      exact ⟨m, by omega, b, c⟩
/-- Every day in bounds has a date: year, month less one, and how the day lies in it. -/
theorem date_of (n : Int) (h0 : 0 ≤ n) (h1 : n ≤ 3652058) : ∃ (y : Int) (m : Nat), 1 ≤ y ∧ y ≤ 9999 ∧ m < 12 ∧ firstS y + cumS y m ≤ n ∧ n < firstS y + cumS y (m + 1) ∧ firstS y ≤ n ∧ n < firstS (y + 1) := by
  obtain ⟨y, a, b, c, d⟩ := year_of n h0 9999 (by have := first_10000; show n < firstS ((9999 : Nat) + 1 : Int); simp; omega)
  have hy := first_succ y
  obtain ⟨m, e, f, g⟩ := month_of y (n - firstS y) (by omega) 12 (by rw [cum_12]; omega)
  exact ⟨y, m, a, by omega, e, by omega, by omega, c, d⟩
theorem year_uniq {n y z : Int} (h1 : firstS y ≤ n) (h2 : n < firstS (y + 1)) (h3 : firstS z ≤ n) (h4 : n < firstS (z + 1)) : y = z := by
  rcases Int.lt_trichotomy y z with h | h | h
  · have := first_mono (a := y + 1) (b := z) (by omega); omega
  · exact h
  · have := first_mono (a := z + 1) (b := y) (by omega); omega
theorem month_uniq {n y : Int} {a b : Nat} (h1 : cumS y a ≤ n) (h2 : n < cumS y (a + 1)) (h3 : cumS y b ≤ n) (h4 : n < cumS y (b + 1)) : a = b := by
  rcases Nat.lt_trichotomy a b with h | h | h
  · have := cum_mono y (a := a + 1) (b := b) (by omega); omega
  · exact h
  · have := cum_mono y (a := b + 1) (b := a) (by omega); omega
end Go.Proofs.YtkkeplmaphcblaaGreatDoor.Days

namespace Go.Proofs.YtkkeplmaphcblaaGreatDoor.Days
open Go.RowKit

def I64 (n : Int) : Prop := -9223372036854775808 ≤ n ∧ n ≤ 9223372036854775807
theorem rem_bd (u : Int) {B : Int} (hB : 0 < B) : -B < u.tmod B ∧ u.tmod B < B ∧ (u.tmod B = 0 ↔ u % B = 0) := by
  by_cases h : 0 ≤ u
  · rw [Int.tmod_eq_emod_of_nonneg h]
    have h1 := Int.emod_nonneg u (b := B) (by omega)
    have h2 := Int.emod_lt_of_pos u hB
    exact ⟨by omega, h2, Iff.rfl⟩
  · obtain ⟨v, rfl⟩ : ∃ v, u = -v := ⟨-u, by omega⟩
    rw [Int.neg_tmod, Int.tmod_eq_emod_of_nonneg (by omega : 0 ≤ v)]
    have h1 := Int.emod_nonneg v (b := B) (by omega)
    have h2 := Int.emod_lt_of_pos v hB
    refine ⟨by omega, by omega, ?_⟩
    rw [show (-v % B = 0) ↔ (v % B = 0) from ⟨fun h => Int.emod_eq_zero_of_dvd (Int.dvd_neg.1 (Int.dvd_of_emod_eq_zero h)), fun h => Int.emod_eq_zero_of_dvd (Int.dvd_neg.2 (Int.dvd_of_emod_eq_zero h))⟩]
    omega

theorem leap_core (y r4 r100 r400 : Int) (h4 : y.tmod 4 = r4) (h100 : y.tmod 100 = r100) (h400 : y.tmod 400 = r400) (k4 : IntKind.i64.wrap r4 = r4) (k100 : IntKind.i64.wrap r100 = r100) (k400 : IntKind.i64.wrap r400 = r400) (w : World) :
    Calls Tryz.prog 242 #[.int .i64 y] w fun e w' => e = .returned (.bool (r4 == 0 && (!(r100 == 0) || r400 == 0))) ∧ w = w' := by
  by_cases z4 : r4 = 0
  · subst z4
    by_cases z1 : r100 = 0
    · subst z1
      go_enter Tryz.func242, Tryz.ntmps242
      go_wp2
      go_ret
      exact ⟨rfl, rfl⟩
    · have z1' : (r100 == 0) = false := by simpa using z1
      go_enter Tryz.func242, Tryz.ntmps242
      go_wp2
      go_ret
      exact ⟨by simp [z1'], rfl⟩
  · have z4' : (r4 == 0) = false := by simpa using z4
    go_enter Tryz.func242, Tryz.ntmps242
    go_wp2
    go_ret
    exact ⟨by simp [z4'], rfl⟩
theorem leap_any (y : Int) (w : World) : Calls Tryz.prog 242 #[.int .i64 y] w fun e w' => e = .returned (.bool (leapB y)) ∧ w = w' := by
  have b4 := rem_bd y (B := 4) (by decide)
  have b100 := rem_bd y (B := 100) (by decide)
  have b400 := rem_bd y (B := 400) (by decide)
  refine (leap_core y _ _ _ rfl rfl rfl (IntWalk.i64_in _ (by omega)) (IntWalk.i64_in _ (by omega)) (IntWalk.i64_in _ (by omega)) w).mono ?_
  rintro e w' ⟨rfl, rfl⟩
  refine ⟨?_, rfl⟩
  congr 2
  rw [Bool.eq_iff_iff, leap_iff]
  simp [b4.2.2, b100.2.2, b400.2.2]
theorem length_any (y m : Int) (w : World) : Calls Tryz.prog 215 #[.int .i64 y, .int .i64 m] w fun e w' => e = .returned (.int .i64 (lenS y m)) ∧ w = w' := by
  have HL : Hid (∀ b, leapB y = b → lenS y m = if m = 2 then (if b = true then 29 else 28) else if m = 4 ∨ m = 6 ∨ m = 9 ∨ m = 11 then 30 else 31) := fun b hb => by subst hb; rfl
  have HY := Lib.hid (leap_any y)
  generalize lenS y m = L at *
  generalize hlb : leapB y = b at *
  have HL2 := Lib.hid (HL.out b rfl)
  clear HL hlb
  by_cases h2 : m = 2
  · subst h2
    cases b
    all_goals
      go_enter Tryz.func215, Tryz.ntmps215
      go_wp2_with (go_at_call 242; refine (HY.out _).mono ?_; rintro e w' ⟨rfl, rfl⟩)
      go_ret
      exact ⟨by rw [HL2.out]; rfl, rfl⟩
  by_cases h4 : m = 4
  · subst h4
    go_enter Tryz.func215, Tryz.ntmps215
    go_wp2
    go_ret
    exact ⟨by rw [HL2.out]; rfl, rfl⟩
  by_cases h6 : m = 6
  · subst h6
    go_enter Tryz.func215, Tryz.ntmps215
    go_wp2
    go_ret
    exact ⟨by rw [HL2.out]; rfl, rfl⟩
  by_cases h9 : m = 9
  · subst h9
    go_enter Tryz.func215, Tryz.ntmps215
    go_wp2
    go_ret
    exact ⟨by rw [HL2.out]; rfl, rfl⟩
  by_cases h11 : m = 11
  · subst h11
    go_enter Tryz.func215, Tryz.ntmps215
    go_wp2
    go_ret
    exact ⟨by rw [HL2.out]; rfl, rfl⟩
  have e2 : (m == 2) = false := by simpa using h2
  have e4 : (m == 4) = false := by simpa using h4
  have e6 : (m == 6) = false := by simpa using h6
  have e9 : (m == 9) = false := by simpa using h9
  have e11 : (m == 11) = false := by simpa using h11
  go_enter Tryz.func215, Tryz.ntmps215
  go_wp2
  go_ret
  exact ⟨by rw [HL2.out, if_neg h2, if_neg (by omega)]; rfl, rfl⟩

theorem first_any (y : Int) (h0 : 1 ≤ y) (h1 : y ≤ 10000) (w : World) : Calls Tryz.prog 214 #[.int .i64 y] w fun e w' => e = .returned (.int .i64 (firstS y)) ∧ w = w' := by
  obtain ⟨k, rfl⟩ : ∃ k, y = k + 1 := ⟨y - 1, by omega⟩
  have hF : firstS (k + 1) = 365 * k + k / 4 - k / 100 + k / 400 := by unfold firstS; rw [Int.add_sub_cancel]
  have HF := Lib.hid hF
  clear hF
  have e : k + 1 - 1 = k := Int.add_sub_cancel _ _
  have g0 : 0 ≤ k := by omega
  have g1 : k ≤ 9999 := by omega
  clear h0 h1
  go_enter Tryz.func214, Tryz.ntmps214
  go_wp2
  go_ret
  exact ⟨by rw [HF.out]; rfl, rfl⟩
end Go.Proofs.YtkkeplmaphcblaaGreatDoor.Days

namespace Go.Proofs.YtkkeplmaphcblaaGreatDoor.Days
open Go.RowKit

set_option maxHeartbeats 1000000 in
set_option maxRecDepth 100000 in
theorem day_bad (y m d : Int) (h : ¬ okD y m d) (w : World) : Calls Tryz.prog 204 #[.int .i64 y, .int .i64 m, .int .i64 d] w fun e w' => e = .returned (.tuple #[.int .i64 0, .int .i64 3]) ∧ w = w' := by
  unfold okD at h
  by_cases g1 : y < 1
  · clear h
    go_enter Tryz.func204, Tryz.ntmps204
    go_wp2
    go_returns
    exact ⟨rfl, rfl⟩
  by_cases g2 : 9999 < y
  · clear h
    go_enter Tryz.func204, Tryz.ntmps204
    go_wp2
    go_returns
    exact ⟨rfl, rfl⟩
  by_cases g3 : m < 1
  · clear h
    go_enter Tryz.func204, Tryz.ntmps204
    go_wp2
    go_returns
    exact ⟨rfl, rfl⟩
  by_cases g4 : 12 < m
  · clear h
    go_enter Tryz.func204, Tryz.ntmps204
    go_wp2
    go_returns
    exact ⟨rfl, rfl⟩
  by_cases g5 : d < 1
  · clear h
    go_enter Tryz.func204, Tryz.ntmps204
    go_wp2
    go_returns
    exact ⟨rfl, rfl⟩
  have g6 : lenS y m < d := by omega
  clear h
  go_enter Tryz.func204, Tryz.ntmps204
  go_wp2_with (go_at_call 215; refine (length_any y m _).mono ?_; rintro e w' ⟨rfl, rfl⟩)
  go_returns
  exact ⟨rfl, rfl⟩

set_option maxHeartbeats 1000000 in
set_option maxRecDepth 100000 in
theorem day_ok (y m d : Int) (h : okD y m d) (w : World) : Calls Tryz.prog 204 #[.int .i64 y, .int .i64 m, .int .i64 d] w fun e w' => e = .returned (.tuple #[.int .i64 (dayN y m d), .int .i64 0]) ∧ w = w' := by
  have HD : Hid (dayN y m d = firstS y + cumS y (m - 1).toNat + (d - 1)) := rfl
  obtain ⟨g1, g2, g3, g4, g5, g6⟩ := h
  have f0 := first_ge g1
  have f1 := first_le g1
  have l0 := len_bd y m
  have f2 : 0 ≤ firstS y := by omega
  have f3 : firstS y ≤ 4000000 := by omega
  have d1 : d ≤ 31 := by omega
  clear f0 f1 l0
  go_enter Tryz.func204, Tryz.ntmps204
  go_wp2_with (first
    | (go_at_call 215; refine (length_any y m _).mono ?_; rintro e w' ⟨rfl, rfl⟩)
    | (go_at_call 214; refine (first_any y g1 (by omega) _).mono ?_; rintro e w' ⟨rfl, rfl⟩))
  go_loop [8, 9] (fun v i => ∃ (k : Nat) (x : Int), (k : Int) ≤ m - 1 ∧ i = .int .i64 ((k : Int) + 1) ∧ v = .int .i64 x ∧ x = firstS y + d - 1 + cumS y k) (fun _ i => (m - intOf i).toNat)
  case atStart => exact ⟨0, _, by omega, by rfl, rfl, by simp [cumS]⟩
  case round =>
    obtain ⟨k, x, hk, rfl, rfl, hx⟩ := hrel
    have hc := cum_bd y k
    have x0 : 0 ≤ x := by omega
    have x1 : x ≤ 5000000 := by omega
    have HX := Lib.hid hx
    clear hx hc
    by_cases hlt : (k : Int) + 1 < m
    · have l0 := len_bd y ((k : Int) + 1)
      obtain ⟨l1, l2⟩ := l0
      have HL : Hid (cumS y (k + 1) = cumS y k + lenS y ((k : Int) + 1)) := by rw [cum_succ]; rfl
      have HY := Lib.hid (length_any y ((k : Int) + 1))
      generalize lenS y ((k : Int) + 1) = L at *
      go_wp2_with (go_at_call 215; refine (HY.out _).mono ?_; rintro e w' ⟨rfl, rfl⟩)
      go_round
      case rel => exact ⟨k + 1, x + L, by omega, by go_num, rfl, by rw [HX.out, HL.out]; omega⟩
      case measure => simp [intOf]; omega
    · have e : (m - 1).toNat = k := by omega
      have E := Lib.hid e
      clear e
      go_wp2
      go_returns
      exact ⟨by rw [HD.out, E.out, show firstS y + cumS y k + (d - 1) = x from by rw [HX.out]; omega]; rfl, rfl⟩

set_option maxHeartbeats 1000000 in
theorem date_bad (n : Int) (h : n < 0 ∨ 3652058 < n) (w : World) : Calls Tryz.prog 187 #[.int .i64 n] w fun e w' => e = .returned (.tuple #[.int .i64 0, .int .i64 0, .int .i64 0, .int .i64 3]) ∧ w = w' := by
  by_cases g1 : n < 0
  · clear h
    go_enter Tryz.func187, Tryz.ntmps187
    go_wp2
    go_returns
    exact ⟨rfl, rfl⟩
  · have g2 : 3652058 < n := by omega
    clear h
    go_enter Tryz.func187, Tryz.ntmps187
    go_wp2
    go_returns
    exact ⟨rfl, rfl⟩

set_option maxHeartbeats 2000000 in
set_option maxRecDepth 100000 in
theorem date_ok (n y : Int) (m : Nat) (h0 : 0 ≤ n) (h1 : n ≤ 3652058) (y0 : 1 ≤ y) (y1 : y ≤ 9999) (m1 : m < 12) (c0 : firstS y + cumS y m ≤ n) (c1 : n < firstS y + cumS y (m + 1)) (d0 : firstS y ≤ n) (d1 : n < firstS (y + 1)) (w : World) :
    Calls Tryz.prog 187 #[.int .i64 n] w fun e w' => e = .returned (.tuple #[.int .i64 y, .int .i64 ((m : Int) + 1), .int .i64 (n - firstS y - cumS y m + 1), .int .i64 0]) ∧ w = w' := by
  have HC : Hid (firstS y + cumS y m ≤ n ∧ n < firstS y + cumS y (m + 1) ∧ firstS y ≤ n ∧ n < firstS (y + 1)) := ⟨c0, c1, d0, d1⟩
  have q0 : 0 ≤ n / 365 := by omega
  have q1 : n / 365 ≤ 10006 := by omega
  have f0 := first_ge y0
  have y2 : y ≤ n / 365 + 1 := by omega
  clear c0 c1 d1 f0
  go_enter Tryz.func187, Tryz.ntmps187
  go_wp2
  all_goals
    go_loop [2] (fun v => ∃ z : Int, v = .int .i64 z ∧ y ≤ z ∧ z ≤ 9999) (fun v => (intOf v).toNat)
    case atStart => exact ⟨_, rfl, by omega, by omega⟩
    case round =>
      obtain ⟨z, rfl, z0, z1⟩ := hrel
      have f2 := first_ge (y := z) (by omega)
      have f3 := first_le (y := z) (by omega)
      by_cases hgt : n < firstS z
      · have hne : ¬ z = y := by rintro rfl; omega
        have z2 : y + 1 ≤ z := by omega
        go_wp2_with (go_at_call 214; refine (first_any z (by omega) (by omega) _).mono ?_; rintro e w' ⟨rfl, rfl⟩)
        go_round
        case rel => exact ⟨z - 1, rfl, by omega, by omega⟩
        case measure => simp [intOf]; omega
      · obtain rfl : z = y := by
          apply Int.le_antisymm _ z0
          apply Int.le_of_not_gt
          intro hlt
          have := first_mono (a := y + 1) (b := z) (by omega)
          have := HC.out.2.2.2
          omega
        go_wp2_with (go_at_call 214; refine (first_any z (by omega) (by omega) _).mono ?_; rintro e w' ⟨rfl, rfl⟩)
        go_loop [0, 3] (fun v i => ∃ (k : Nat) (x : Int), k ≤ m ∧ i = .int .i64 ((k : Int) + 1) ∧ v = .int .i64 x ∧ x = n - firstS z - cumS z k ∧ 0 ≤ x ∧ x ≤ 3652058) (fun _ i => (20 - intOf i).toNat)
        case atStart => exact ⟨0, _, by omega, by rfl, rfl, by simp [cumS], by omega, by omega⟩
        case round =>
          obtain ⟨k, x, hk, rfl, rfl, hx, x0, x1⟩ := hrel
          have HX := Lib.hid hx
          clear hx
          have l0 := len_bd z ((k : Int) + 1)
          obtain ⟨l1, l2⟩ := l0
          have HL : Hid (cumS z (k + 1) = cumS z k + lenS z ((k : Int) + 1)) := by rw [cum_succ]; rfl
          have HY := Lib.hid (length_any z ((k : Int) + 1))
          generalize lenS z ((k : Int) + 1) = L at *
          by_cases hge : L ≤ x
          · have hlt : k < m := by
              apply Nat.lt_of_not_le
              intro hle
              obtain rfl : k = m := by omega
              have h1 := HC.out
              have h2 := HL.out
              have h3 := HX.out
              omega
            go_wp2_with (go_at_call 215; refine (HY.out _).mono ?_; rintro e w' ⟨rfl, rfl⟩)
            go_round
            case rel => exact ⟨k + 1, x - L, by omega, by go_num, rfl, by rw [HX.out, HL.out]; omega, by omega, by omega⟩
            case measure => simp [intOf]; omega
          · obtain rfl : k = m := by
              apply Nat.le_antisymm hk
              apply Nat.le_of_not_lt
              intro hlt
              have h0 := cum_mono z (a := k + 1) (b := m) (by omega)
              have h1 := HC.out
              have h2 := HL.out
              have h3 := HX.out
              omega
            go_wp2_with (go_at_call 215; refine (HY.out _).mono ?_; rintro e w' ⟨rfl, rfl⟩)
            go_returns
            exact ⟨by rw [← HX.out], rfl⟩
end Go.Proofs.YtkkeplmaphcblaaGreatDoor.Days

namespace Go.Proofs.YtkkeplmaphcblaaGreatDoor.Days
open Go.RowKit

end Go.Proofs.YtkkeplmaphcblaaGreatDoor.Days

namespace Go.Proofs.YtkkeplmaphcblaaGreatDoor.Days
open Go.Lib

/-- n in so many digits. -/
def pd : Nat → Nat → List UInt8
  | 0, _ => []
  | k + 1, n => pd k (n / 10) ++ [UInt8.ofNat (48 + n % 10)]
theorem pd_length : ∀ (k n : Nat), (pd k n).length = k
  | 0, _ => rfl
  | k + 1, n => by simp [pd, pd_length k]
theorem pd_zero : ∀ k : Nat, pd k 0 = List.replicate k 48
  | 0 => rfl
  | k + 1 => by
    rw [pd, Nat.zero_div, pd_zero k, Nat.zero_mod, List.replicate_succ']
    rfl
theorem pad_pd : ∀ (k n : Nat), 0 < k → n < 10 ^ k → nDigits n ≤ k ∧ List.replicate (k - nDigits n) 48 ++ decDigits n = pd k n
  | 0, _, h, _ => by omega
  | k + 1, n, _, hn => by
    by_cases h : n < 10
    · rw [nDigits_small h, decDigits_one h, Nat.add_sub_cancel, pd, Nat.div_eq_of_lt h, pd_zero, Nat.mod_eq_of_lt h]
      exact ⟨by omega, rfl⟩
    · have hk : 0 < k := by
        apply Nat.pos_of_ne_zero
        rintro rfl
        simp at hn
        omega
      have hn2 : n / 10 < 10 ^ k := by rw [Nat.pow_succ] at hn; omega
      obtain ⟨h1, h2⟩ := pad_pd k (n / 10) hk hn2
      rw [nDigits_big h, decDigits, dif_neg h, pd, ← h2, ← List.append_assoc, Nat.add_sub_add_right]
      exact ⟨by omega, rfl⟩

/-- A row of digits. -/
def allDig (l : List UInt8) : Bool := l.all fun b => decide (48 ≤ b.toNat ∧ b.toNat ≤ 57)
theorem dig_ofNat {d : Nat} (h : d < 10) : (UInt8.ofNat (48 + d)).toNat = 48 + d := by simp [UInt8.toNat_ofNat']; omega
theorem allDig_pd : ∀ (k n : Nat), allDig (pd k n) = true
  | 0, _ => rfl
  | k + 1, n => by
    have h := allDig_pd k (n / 10)
    unfold allDig at h ⊢
    rw [pd, List.all_append, h]
    have := dig_ofNat (d := n % 10) (by omega)
    simp [this]
    omega
theorem allDig_no45 {l : List UInt8} (h : allDig l = true) : ∀ b ∈ l, b ≠ 45 := by
  intro b hb e
  subst e
  have := List.all_eq_true.1 h _ hb
  revert this
  decide
theorem decFrom_append : ∀ (l r : List UInt8) (a n : Nat), decFrom a l = some n → decFrom a (l ++ r) = decFrom n r
  | [], r, a, n, h => by cases h; rfl
  | b :: l, r, a, n, h => by
    rw [List.cons_append, decFrom]
    rw [decFrom] at h
    cases hd : digitVal b with
    | none => rw [hd] at h; cases h
    | some d => rw [hd] at h; exact decFrom_append l r _ n h
theorem decFrom_pd : ∀ (k n : Nat), n < 10 ^ k → decFrom 0 (pd k n) = some n
  | 0, n, h => by
    simp at h
    subst h
    rfl
  | k + 1, n, h => by
    rw [pd, decFrom_append _ _ _ _ (decFrom_pd k (n / 10) (by rw [Nat.pow_succ] at h; omega)), decFrom, digitVal, if_pos (by rw [dig_ofNat (by omega)]; omega), dig_ofNat (by omega)]
    simp only [decFrom]
    congr 1
    omega
theorem atoi_digits {l : List UInt8} {n : Nat} (hne : l ≠ []) (hd : allDig l = true) (h : decFrom 0 l = some n) : atoi l = some (n : Int) := by
  cases l with
  | nil => exact absurd rfl hne
  | cons b r =>
    have hb := List.all_eq_true.1 hd b (by simp)
    simp only [decide_eq_true_eq] at hb
    have h1 : (b == 45) = false := by
      rw [beq_eq_false_iff_ne]; rintro rfl; revert hb; decide
    have h2 : (b == 43) = false := by
      rw [beq_eq_false_iff_ne]; rintro rfl; revert hb; decide
    rw [atoi, h1, h2]
    simp only [Bool.false_eq_true, if_false]
    unfold decNat
    simp [h]

/-- The text that Trim leaves of digits alone is empty, and of nothing else. -/
def cutset : ByteArray := ⟨#[48, 49, 50, 51, 52, 53, 54, 55, 56, 57]⟩
theorem in_cutset (b : UInt8) : cutset.data.toList.contains b = decide (48 ≤ b.toNat ∧ b.toNat ≤ 57) := by
  have h : ∀ n : Fin 256, cutset.data.toList.contains (UInt8.ofNat n.val) = decide (48 ≤ (UInt8.ofNat n.val).toNat ∧ (UInt8.ofNat n.val).toNat ≤ 57) := by decide +kernel
  have := h ⟨b.toNat, b.toNat_lt⟩
  simpa using this
theorem dropWhile_nil {p : UInt8 → Bool} : ∀ (l : List UInt8), (l.dropWhile p).isEmpty = l.all p
  | [] => rfl
  | b :: l => by
    rw [List.dropWhile_cons, List.all_cons]
    cases p b with
    | true => simpa using dropWhile_nil l
    | false => simp
theorem dropWhile_idem {p : UInt8 → Bool} (l : List UInt8) (h : l.all p = true) : l.dropWhile p = [] := by
  have := dropWhile_nil (p := p) l
  rw [h] at this
  exact List.isEmpty_iff.1 this
theorem trim_digits (l : List UInt8) : (trimS l cutset.data.toList).isEmpty = allDig l := by
  have hp : (fun b => cutset.data.toList.contains b) = fun b : UInt8 => decide (48 ≤ b.toNat ∧ b.toNat ≤ 57) := funext in_cutset
  unfold trimS trimLeftS trimRightS allDig
  rw [hp, dropWhile_nil]
  by_cases h : (l.all fun b => decide (48 ≤ b.toNat ∧ b.toNat ≤ 57)) = true
  · rw [h, dropWhile_idem l.reverse (by rw [List.all_reverse]; exact h)]
    rfl
  · rw [Bool.eq_false_iff.2 h, Bool.eq_false_iff]
    intro h2
    rw [List.all_reverse] at h2
    apply h
    have h3 : (l.reverse.dropWhile fun b => decide (48 ≤ b.toNat ∧ b.toNat ≤ 57)) = [] := by
      cases hc : (l.reverse.dropWhile fun b => decide (48 ≤ b.toNat ∧ b.toNat ≤ 57)) with
      | nil => rfl
      | cons a t =>
        have h4 := List.head?_dropWhile_not (fun b : UInt8 => decide (48 ≤ b.toNat ∧ b.toNat ≤ 57)) l.reverse
        rw [hc] at h4 h2
        simp only [List.head?_cons] at h4
        rw [List.all_cons] at h2
        simp only [Bool.and_eq_true] at h2
        rw [h2.1] at h4
        simp at h4
    have h5 := dropWhile_nil (p := fun b : UInt8 => decide (48 ≤ b.toNat ∧ b.toNat ≤ 57)) l.reverse
    rw [h3, List.all_reverse] at h5
    exact h5.symm

/-- Split at 45. -/
theorem index_at : ∀ (a r : List UInt8), (∀ b ∈ a, b ≠ 45) → index (a ++ 45 :: r) [45] = a.length
  | [], r, _ => by unfold index; simp
  | b :: a, r, h => by
    have hb : ¬ (45 : UInt8) = b := fun e => h b (by simp) e.symm
    have hp : List.isPrefixOf [45] (b :: (a ++ 45 :: r)) = false := by simp [List.isPrefixOf, hb]
    have hm : ((a.length : Int) == -1) = false := by rw [beq_eq_false_iff_ne]; omega
    rw [List.cons_append, index, hp, index_at a r fun x hx => h x (by simp [hx]), hm]
    simp
theorem index_no : ∀ (a : List UInt8), (∀ b ∈ a, b ≠ 45) → index a [45] = -1
  | [], _ => rfl
  | b :: a, h => by
    have hb : ¬ (45 : UInt8) = b := fun e => h b (by simp) e.symm
    have hp : List.isPrefixOf [45] (b :: a) = false := by simp [List.isPrefixOf, hb]
    rw [index, hp, index_no a fun x hx => h x (by simp [hx])]
    simp
theorem count_at (a r : List UInt8) (h : ∀ b ∈ a, b ≠ 45) : count (a ++ 45 :: r) [45] = 1 + count r [45] := by
  rw [count_hit (by simp) (index_at a r h)]
  congr 2
  rw [List.drop_append]
  simp
theorem splitK_at (a r : List UInt8) (k : Nat) (h : ∀ b ∈ a, b ≠ 45) : splitK [45] 0 (k + 1) (a ++ 45 :: r) = a :: splitK [45] 0 k r := by
  rw [splitK, index_at a r h]
  have : ((a.length : Int) == -1) = false := by rw [beq_eq_false_iff_ne]; omega
  rw [this]
  simp only [Bool.false_eq_true, if_false, Int.toNat_natCast, Nat.add_zero]
  congr 1
  · simp
  · congr 1
    rw [List.drop_append]
    simp
theorem splitK_no (a : List UInt8) (k : Nat) (h : ∀ b ∈ a, b ≠ 45) : splitK [45] 0 k a = [a] := by
  cases k with
  | zero => rfl
  | succ k => rw [splitK, index_no a h]; rfl
theorem split3 {a b c : List UInt8} (ha : ∀ x ∈ a, x ≠ 45) (hb : ∀ x ∈ b, x ≠ 45) (hc : ∀ x ∈ c, x ≠ 45) : count (a ++ 45 :: (b ++ 45 :: c)) [45] = 2 ∧ splitK [45] 0 2 (a ++ 45 :: (b ++ 45 :: c)) = [a, b, c] := by
  rw [count_at a _ ha, count_at b _ hb, count_miss (index_no c hc), splitK_at a _ 1 ha, splitK_at b _ 0 hb, splitK_no c 0 hc]
  exact ⟨rfl, rfl⟩
end Go.Proofs.YtkkeplmaphcblaaGreatDoor.Days

namespace Go.Proofs.YtkkeplmaphcblaaGreatDoor.Days
open Go.RowKit Go.Lib

theorem itoa_nat (n : Nat) (D : ByteArray) (hn : n ≤ 9999) (hD : ⟨(decDigits n).toArray⟩ = D) (w : World) (htab : Lib.TabIs Tryz.prog w "internal/strconv.uint64pow10" .u64 Lib.pow10Tab) :
    Calls Tryz.prog 216 #[.int .i64 (n : Int)] w fun e w' => e = .returned (.string D) ∧ Below w.heap.size w w' := by
  refine (Tryz.strconv_Itoa (n : Int) (by omega) (by omega) w htab).mono ?_
  rintro e w' ⟨rfl, k, os, rfl⟩
  have : itoa (n : Int) = decDigits n := by unfold itoa; rw [if_neg (by omega), Int.toNat_natCast]
  rw [this, hD]
  exact ⟨rfl, Lib.below_grow _ w (Nat.le_refl _) k os⟩
theorem repeat48 : ∀ c : Nat, repeatL [48] c = List.replicate c 48
  | 0 => rfl
  | c + 1 => by
    rw [List.replicate_succ, ← repeat48 c]
    rfl
theorem repeat_lit (c : Nat) (ci : Int) (R : ByteArray) (hc : c ≤ 100) (hci : (c : Int) = ci) (hR : ⟨(List.replicate c (48 : UInt8)).toArray⟩ = R) (w : World) :
    Calls Tryz.prog 184 #[.string ⟨#[48]⟩, .int .i64 ci] w fun e w' => e = .returned (.string R) ∧ Below w.heap.size w w' := by
  subst hci
  refine (Tryz.strings_Repeat ⟨#[48]⟩ c w (by omega) (by show 1 * c ≤ _; omega)).mono ?_
  rintro e w' ⟨rfl, hb⟩
  have : repeatL (⟨#[48]⟩ : ByteArray).data.toList c = List.replicate c 48 := by
    exact repeat48 c
  rw [this, hR]
  exact ⟨rfl, hb⟩

theorem pad_any (n k : Nat) (h : n < 10 ^ k) (hk : 0 < k) (hk4 : k ≤ 4) (w : World) (htab : Lib.TabIs Tryz.prog w "internal/strconv.uint64pow10" .u64 Lib.pow10Tab) :
    Calls Tryz.prog 188 #[.int .i64 (n : Int), .int .i64 (k : Int)] w fun e w' => e = .returned (.string ⟨(pd k n).toArray⟩) ∧ Below w.heap.size w w' := by
  obtain ⟨h1, h2⟩ := pad_pd k n hk h
  have h3 : 10 ^ k ≤ 10 ^ 4 := Nat.pow_le_pow_right (by decide) hk4
  have hn : n ≤ 9999 := by omega
  obtain ⟨D, hD⟩ : ∃ D : ByteArray, ⟨(decDigits n).toArray⟩ = D := ⟨_, rfl⟩
  obtain ⟨R, hR⟩ : ∃ R : ByteArray, ⟨(List.replicate (k - nDigits n) (48 : UInt8)).toArray⟩ = R := ⟨_, rfl⟩
  have hL : D.size = nDigits n := by rw [← hD]; show (decDigits n).toArray.size = _; rw [List.size_toArray, decDigits_length]
  have hRL : R.size = k - nDigits n := by rw [← hR]; show (List.replicate _ (48 : UInt8)).toArray.size = _; simp
  have hE : R ++ D = ⟨(pd k n).toArray⟩ := by
    rw [← h2, ← hD, ← hR]
    rfl
  have HI := Lib.hid (fun w htab => itoa_nat n D hn hD w htab)
  have HR := Lib.hid (fun w => repeat_lit (k - nDigits n) ((k : Int) - D.size) R (by omega) (by rw [hL]; omega) hR w)
  have HE := Lib.hid hE
  have hLk : D.size ≤ k := by omega
  have hRk : R.size ≤ 4 := by omega
  clear h1 h2 h3 hD hR hL hRL hE h
  go_enter Tryz.func188, Tryz.ntmps188
  go_wp2_with (go_at_call 216; refine (HI.out _ htab).mono ?_; rintro e w1 ⟨rfl, hb1⟩)
  refine (HR.out _).mono ?_
  rintro e w2 ⟨rfl, hb2⟩
  go_wp2
  go_ret
  exact ⟨by rw [← HE.out]; rfl, by (repeat' (first | (with_reducible exact Below.refl _ _) | (with_reducible assumption) | (with_reducible refine balloc ?_ _) | (with_reducible refine Below.drew ?_) | (with_reducible refine bset ?_ ?_ _) | (with_reducible refine bstep ?_ (by with_reducible assumption)) | (with_reducible refine bturn ?_ (by with_reducible assumption) ?_) | go_size))⟩

/-- A date's text. -/
def textL (y m d : Nat) : List UInt8 := pd 4 y ++ 45 :: (pd 2 m ++ 45 :: pd 2 d)
theorem textL_length (y m d : Nat) : (textL y m d).length = 10 := by simp [textL, pd_length]

theorem pad_lit {n k : Nat} {ni ki : Int} (hni : (n : Int) = ni) (hki : (k : Int) = ki) (h : n < 10 ^ k) (hk : 0 < k) (hk4 : k ≤ 4) {P : ByteArray} (hP : ⟨(pd k n).toArray⟩ = P) (w : World) (htab : Lib.TabIs Tryz.prog w "internal/strconv.uint64pow10" .u64 Lib.pow10Tab) :
    Calls Tryz.prog 188 #[.int .i64 ni, .int .i64 ki] w fun e w' => e = .returned (.string P) ∧ Below w.heap.size w w' := by
  subst hni; subst hki; subst hP
  exact pad_any n k h hk hk4 w htab

set_option maxHeartbeats 1000000 in
set_option maxRecDepth 100000 in
theorem text_bad (n : Int) (h : n < 0 ∨ 3652058 < n) (w : World) : Calls Tryz.prog 142 #[.int .i64 n] w fun e w' => e = .returned (.tuple #[.string ⟨#[]⟩, .int .i64 3]) ∧ w = w' := by
  have H := Lib.hid (date_bad n h)
  clear h
  go_enter Tryz.func142, Tryz.ntmps142
  go_wp2_with fail
  refine (H.out _).mono ?_
  rintro e w1 ⟨rfl, rfl⟩
  go_wp2
  go_returns
  exact ⟨rfl, rfl⟩

set_option maxHeartbeats 1000000 in
set_option maxRecDepth 100000 in
theorem text_ok (n y : Int) (m : Nat) (h0 : 0 ≤ n) (h1 : n ≤ 3652058) (y0 : 1 ≤ y) (y1 : y ≤ 9999) (m1 : m < 12) (c0 : firstS y + cumS y m ≤ n) (c1 : n < firstS y + cumS y (m + 1)) (d0 : firstS y ≤ n) (d1 : n < firstS (y + 1)) (w : World) (htab : Lib.TabIs Tryz.prog w "internal/strconv.uint64pow10" .u64 Lib.pow10Tab) :
    Calls Tryz.prog 142 #[.int .i64 n] w fun e w' => e = .returned (.tuple #[.string ⟨(textL y.toNat (m + 1) (n - firstS y - cumS y m + 1).toNat).toArray⟩, .int .i64 0]) ∧ Below w.heap.size w w' := by
  have HD := Lib.hid (date_ok n y m h0 h1 y0 y1 m1 c0 c1 d0 d1)
  have HT := Lib.hid (Lib.tabBelow_of_tabIs htab)
  have hl := len_bd y (m + 1)
  have hcs := cum_succ y m
  have e0 : 1 ≤ n - firstS y - cumS y m + 1 := by omega
  have e1 : n - firstS y - cumS y m + 1 ≤ 31 := by omega
  generalize n - firstS y - cumS y m + 1 = d at *
  have HE : Hid (∀ A B C : ByteArray, ⟨(pd 4 y.toNat).toArray⟩ = A → ⟨(pd 2 (m + 1)).toArray⟩ = B → ⟨(pd 2 d.toNat).toArray⟩ = C → A ++ ⟨#[45]⟩ ++ B ++ ⟨#[45]⟩ ++ C = (⟨(textL y.toNat (m + 1) d.toNat).toArray⟩ : ByteArray)) := by
    rintro A B C rfl rfl rfl
    apply ByteArray.ext
    apply Array.toList_inj.1
    simp [textL]
  have HP1 := Lib.hid (fun w htab => pad_lit (n := y.toNat) (k := 4) (ni := y) (ki := 4) (by omega) rfl (by omega) (by omega) (by omega) rfl w htab)
  have HP2 := Lib.hid (fun w htab => pad_lit (n := m + 1) (k := 2) (ni := (m : Int) + 1) (ki := 2) (by omega) rfl (by omega) (by omega) (by omega) rfl w htab)
  have HP3 := Lib.hid (fun w htab => pad_lit (n := d.toNat) (k := 2) (ni := d) (ki := 2) (by omega) rfl (by omega) (by omega) (by omega) rfl w htab)
  have s1 : (⟨(pd 4 y.toNat).toArray⟩ : ByteArray).size = 4 := pd_length _ _
  have s2 : (⟨(pd 2 (m + 1)).toArray⟩ : ByteArray).size = 2 := pd_length _ _
  have s3 : (⟨(pd 2 d.toNat).toArray⟩ : ByteArray).size = 2 := pd_length _ _
  generalize hA : (⟨(pd 4 y.toNat).toArray⟩ : ByteArray) = A at *
  generalize hB : (⟨(pd 2 (m + 1)).toArray⟩ : ByteArray) = B at *
  generalize hC : (⟨(pd 2 d.toNat).toArray⟩ : ByteArray) = C at *
  have HF := Lib.hid (HE.out A B C rfl rfl rfl)
  clear HE hA hB hC htab hl hcs c0 c1 d0 d1
  go_enter Tryz.func142, Tryz.ntmps142
  go_wp2_with fail
  refine (HD.out _).mono ?_
  rintro e w1 ⟨rfl, rfl⟩
  go_wp2_with fail
  refine (HP1.out _ (HT.out _ (by (repeat' (first | (with_reducible exact Below.refl _ _) | (with_reducible assumption) | (with_reducible refine balloc ?_ _) | (with_reducible refine Below.drew ?_) | (with_reducible refine bset ?_ ?_ _) | (with_reducible refine bstep ?_ (by with_reducible assumption)) | (with_reducible refine bturn ?_ (by with_reducible assumption) ?_) | go_size))))).mono ?_
  rintro e w2 ⟨rfl, hb2⟩
  go_wp2_with fail
  refine (HP2.out _ (HT.out _ (by (repeat' (first | (with_reducible exact Below.refl _ _) | (with_reducible assumption) | (with_reducible refine balloc ?_ _) | (with_reducible refine Below.drew ?_) | (with_reducible refine bset ?_ ?_ _) | (with_reducible refine bstep ?_ (by with_reducible assumption)) | (with_reducible refine bturn ?_ (by with_reducible assumption) ?_) | go_size))))).mono ?_
  rintro e w3 ⟨rfl, hb3⟩
  go_wp2_with fail
  refine (HP3.out _ (HT.out _ (by (repeat' (first | (with_reducible exact Below.refl _ _) | (with_reducible assumption) | (with_reducible refine balloc ?_ _) | (with_reducible refine Below.drew ?_) | (with_reducible refine bset ?_ ?_ _) | (with_reducible refine bstep ?_ (by with_reducible assumption)) | (with_reducible refine bturn ?_ (by with_reducible assumption) ?_) | go_size))))).mono ?_
  rintro e w4 ⟨rfl, hb4⟩
  go_wp2
  go_returns
  exact ⟨by rw [← HF.out]; rfl, by (repeat' (first | (with_reducible exact Below.refl _ _) | (with_reducible assumption) | (with_reducible refine balloc ?_ _) | (with_reducible refine Below.drew ?_) | (with_reducible refine bset ?_ ?_ _) | (with_reducible refine bstep ?_ (by with_reducible assumption)) | (with_reducible refine bturn ?_ (by with_reducible assumption) ?_) | go_size))⟩
end Go.Proofs.YtkkeplmaphcblaaGreatDoor.Days

namespace Go.Proofs.YtkkeplmaphcblaaGreatDoor.Days
open Go.RowKit
open Go.Lib hiding intOf

theorem pd_cons : ∀ (k n : Nat), pd (k + 1) n = UInt8.ofNat (48 + n / 10 ^ k % 10) :: pd k n
  | 0, n => by simp [pd]
  | k + 1, n => by
    rw [pd, pd_cons k (n / 10), List.cons_append, Nat.div_div_eq_div_mul, ← Nat.pow_succ']
    rfl

theorem digit_string (x : Int) (d : Nat) (hx : x = ((48 + d : Nat) : Int)) (hd : d < 10) (W : World) :
    (convert 93 9 (.slice (some ⟨W.heap.size, 0, none⟩) 1 1)).run Tryz.prog (W.alloc (.cells #[.int .u8 x] 5)) = .ok (.string ⟨#[UInt8.ofNat (48 + d)]⟩) (W.alloc (.cells #[.int .u8 x] 5)) := by
  subst hx
  have h := run_convert_bytes_back (P := Tryz.prog) (W.alloc (.cells #[.int .u8 ((48 + d : Nat) : Int)] 5)) 93 9 5 ⟨W.heap.size, 0, none⟩ 1 [UInt8.ofNat (48 + d)] Tryz.underlying93 Tryz.underlying5 Tryz.underlying9 (fun j hj => by
    obtain rfl : j = 0 := by simp at hj; omega
    show (W.alloc _).cell? _ = some (.int .u8 (((UInt8.ofNat (48 + d)).toNat : Nat) : Int))
    rw [dig_ofNat hd, Lib.add_plain]
    exact (Blk.new W _ _).cell 0)
  exact h

end Go.Proofs.YtkkeplmaphcblaaGreatDoor.Days

namespace Go.Proofs.YtkkeplmaphcblaaGreatDoor.Days
open Go.RowKit
open Go.Lib hiding intOf

/-- A date's day, or the error. -/
structure DayR where
  n : Int
  e : Int
def dayR (y m d : Int) : DayR := if okD y m d then ⟨dayN y m d, 0⟩ else ⟨0, 3⟩
theorem day_any (y m d : Int) (w : World) : Calls Tryz.prog 204 #[.int .i64 y, .int .i64 m, .int .i64 d] w fun e w' => e = .returned (.tuple #[.int .i64 (dayR y m d).n, .int .i64 (dayR y m d).e]) ∧ w = w' := by
  unfold dayR
  by_cases h : okD y m d
  · rw [if_pos h]; exact day_ok y m d h w
  · rw [if_neg h]; exact day_bad y m d h w

theorem trim_good {s : ByteArray} (hs : s.size ≤ 9223372036854775807) (h : allDig s.data.toList = true) (w : World) :
    Calls Tryz.prog 58 #[.string s, .string ⟨#[48, 49, 50, 51, 52, 53, 54, 55, 56, 57]⟩] w fun e w' => e = .returned (.string ⟨#[]⟩) ∧ Below w.heap.size w w' := by
  refine (Any.strings_Trim_laid Tryz.lays160 (by kernel_rfl) s ⟨#[48, 49, 50, 51, 52, 53, 54, 55, 56, 57]⟩ w hs (by decide) (ascii_of_all (by decide))).mono ?_
  rintro e w' ⟨rfl, hb⟩
  have h2 := trim_digits s.data.toList
  rw [h] at h2
  have h3 : trimS s.data.toList cutset.data.toList = [] := List.isEmpty_iff.1 h2
  refine ⟨?_, hb⟩
  show Ending.returned (.string ⟨(trimS s.data.toList cutset.data.toList).toArray⟩) = _
  rw [h3]
theorem trim_bad {s : ByteArray} (hs : s.size ≤ 9223372036854775807) (h : allDig s.data.toList = false) (w : World) :
    Calls Tryz.prog 58 #[.string s, .string ⟨#[48, 49, 50, 51, 52, 53, 54, 55, 56, 57]⟩] w fun e w' => (∃ R : ByteArray, e = .returned (.string R) ∧ (R.toList == []) = false) ∧ Below w.heap.size w w' := by
  refine (Any.strings_Trim_laid Tryz.lays160 (by kernel_rfl) s ⟨#[48, 49, 50, 51, 52, 53, 54, 55, 56, 57]⟩ w hs (by decide) (ascii_of_all (by decide))).mono ?_
  rintro e w' ⟨rfl, hb⟩
  have h2 := trim_digits s.data.toList
  rw [h] at h2
  refine ⟨⟨_, rfl, ?_⟩, hb⟩
  rw [Lib.toList_data]
  show ((trimS s.data.toList cutset.data.toList).toArray.toList == []) = false
  cases hc : trimS s.data.toList cutset.data.toList with
  | nil => rw [hc] at h2; simp at h2
  | cons a t => rfl

theorem decFrom_some : ∀ (l : List UInt8) (a : Nat), allDig l = true → ∃ n, decFrom a l = some n
  | [], a, _ => ⟨a, rfl⟩
  | b :: l, a, h => by
    unfold allDig at h
    rw [List.all_cons, Bool.and_eq_true] at h
    rw [decFrom, digitVal, if_pos (of_decide_eq_true h.1)]
    exact decFrom_some l _ h.2
def pv (s : ByteArray) : Int := (((decFrom 0 s.data.toList).getD 0 : Nat) : Int)
def goodP (k : Nat) (s : ByteArray) : Bool := s.size == k && allDig s.data.toList
theorem good_atoi {k : Nat} {s : ByteArray} (hk : 0 < k) (h : goodP k s = true) : atoi s.data.toList = some (pv s) := by
  unfold goodP at h
  rw [Bool.and_eq_true] at h
  have h1 : s.size = k := by simpa using h.1
  obtain ⟨n, hn⟩ := decFrom_some s.data.toList 0 h.2
  have hne : s.data.toList ≠ [] := by
    intro e
    have : s.data.toList.length = s.size := by simp
    rw [e] at this
    simp at this
    omega
  unfold pv
  rw [hn]
  exact atoi_digits hne h.2 hn
theorem atoi_good {k : Nat} {s : ByteArray} (hk : 0 < k) (hk4 : k ≤ 18) (h : goodP k s = true) (w : World) :
    Calls Tryz.prog 203 #[.string s] w fun e w' => e = .returned (.tuple #[.int .i64 (pv s), .nilIface]) ∧ Below w.heap.size w w' := by
  have h1 : s.size = k := by unfold goodP at h; rw [Bool.and_eq_true] at h; simpa using h.1
  refine (Tryz.strconv_Atoi s (pv s) (by omega) (good_atoi hk h) w).mono ?_
  rintro e w' ⟨rfl, t, rfl⟩
  exact ⟨rfl, Lib.bytesWorld_below _ _ _⟩

def parseR (a b c : ByteArray) : DayR := if goodP 4 a && goodP 2 b && goodP 2 c then dayR (pv a) (pv b) (pv c) else ⟨0, 5⟩
def arrK (x y z : Int) : Nat → Array Value
  | 0 => #[.int .i64 0, .int .i64 0, .int .i64 0]
  | 1 => #[.int .i64 x, .int .i64 0, .int .i64 0]
  | 2 => #[.int .i64 x, .int .i64 y, .int .i64 0]
  | _ => #[.int .i64 x, .int .i64 y, .int .i64 z]

theorem split_lit (s a b c : ByteArray) (m : Int) (hs : s.size < 4294967281) (hn : countB s ⟨#[45]⟩ = 2) (hp : splitB ⟨#[45]⟩ 0 2 s = [a, b, c]) (w : World) (hm : w.cell? ⟨1, 0, none⟩ = some (.int .i64 m)) :
    Calls Tryz.prog 202 #[.string s, .string ⟨#[45]⟩] w fun e w' => e = .returned (.slice (some ⟨w.heap.size, 0, none⟩) 3 3) ∧ w' = w.alloc (.cells #[.string a, .string b, .string c] 9) := by
  refine (Tryz.strings_Split s ⟨#[45]⟩ m w hs hm (by decide)).mono ?_
  rintro e w' ⟨rfl, rfl⟩
  rw [hn, hp]
  exact ⟨rfl, rfl⟩

set_option maxHeartbeats 4000000 in
set_option maxRecDepth 100000 in
theorem parse_parts (s a b c : ByteArray) (m : Int) (hs : s.size < 4294967281) (ha : a.size ≤ 4294967281) (hb : b.size ≤ 4294967281) (hc : c.size ≤ 4294967281) (hn : countB s ⟨#[45]⟩ = 2) (hp : splitB ⟨#[45]⟩ 0 2 s = [a, b, c]) (w : World) (hm : w.cell? ⟨1, 0, none⟩ = some (.int .i64 m)) :
    Calls Tryz.prog 165 #[.string s] w fun e w' => e = .returned (.tuple #[.int .i64 (parseR a b c).n, .int .i64 (parseR a b c).e]) ∧ Below w.heap.size w w' := by
  have HSp := Lib.hid (split_lit s a b c m hs hn hp)
  have HR : Hid (parseR a b c = if goodP 4 a && goodP 2 b && goodP 2 c then dayR (pv a) (pv b) (pv c) else ⟨0, 5⟩) := rfl
  clear hs hn hp
  go_enter Tryz.func165, Tryz.ntmps165
  go_wp2_with fail
  refine (HSp.out _ hm).mono ?_
  rintro e w1 ⟨rfl, rfl⟩
  go_wp2
  go_loopw [15] (fun i wr => ∃ k : Nat, k ≤ 3 ∧ i = .int .i64 k ∧ Blk wr w.heap.size 9 #[.string a, .string b, .string c] ∧ Blk wr (w.heap.size + 1) 238 (arrK (pv a) (pv b) (pv c) k) ∧ Below w.heap.size w wr ∧ (0 < k → goodP 4 a = true) ∧ (1 < k → goodP 2 b = true) ∧ (2 < k → goodP 2 c = true)) (fun i _ => 3 - (intOf i).toNat)
  case atStart => exact ⟨0, by omega, rfl, (Blk.new _ _ _).alloc _, Blk.new' _ _ _ (by simp), by (repeat' (first | (with_reducible exact Below.refl _ _) | (with_reducible assumption) | (with_reducible refine balloc ?_ _) | (with_reducible refine Below.drew ?_) | (with_reducible refine bset ?_ ?_ _) | (with_reducible refine bstep ?_ (by with_reducible assumption)) | (with_reducible refine bturn ?_ (by with_reducible assumption) ?_) | go_size)), by omega, by omega, by omega⟩
  case round =>
    obtain ⟨k, hk, hi, hb0, hb1, hbl, hg⟩ := hrel
    have HG := Lib.hid hg
    clear hg hm
    have hl0 := hb0.lt
    have hl1 := hb1.lt
    have c0 := hb0.cell 0
    have c1 := hb0.cell 1
    have c2 := hb0.cell 2
    simp at c0 c1 c2
    have hk3 : k = 0 ∨ k = 1 ∨ k = 2 ∨ k = 3 := by omega
    have hm0 : min (0 : Int) 2 = 0 := rfl
    have hm2 : min (2 : Int) 2 = 2 := rfl
    have hm4 : min (4 : Int) 2 = 2 := rfl
    rcases hk3 with rfl | rfl | rfl | rfl
    · obtain rfl : _ = Value.int .i64 0 := hi
      clear hk
      by_cases hsz : a.size = 4
      · have hszi : (a.size : Int) = 4 := by omega
        cases hdg : allDig a.data.toList with
        | true =>
          have hg : goodP 4 a = true := by unfold goodP; rw [hsz, hdg]; rfl
          have HTr := Lib.hid (fun w => trim_good (s := a) (by omega) hdg w)
          have HAt := Lib.hid (fun w => atoi_good (k := 4) (by omega) (by omega) hg w)
          have HGa := Lib.hid hg
          clear hdg hg hsz
          go_wp2_with fail
          refine (HTr.out _).mono ?_
          rintro e w2 ⟨rfl, hw2⟩
          go_wp2_with fail
          refine (HAt.out _).mono ?_
          rintro e w3 ⟨rfl, hw3⟩
          replace hb0 := (hb0.step hw2).step hw3
          replace hb1 := (hb1.step hw2).step hw3
          have z0 := hb1.frozen 0
          have d0 : w3.cell? ⟨w.heap.size + 1, 0, none⟩ = some (.int .i64 0) := hb1.cell 0
          clear c0 c1 c2
          go_wp2
          go_roundw
          case rel => exact ⟨1, by omega, by rfl, hb0.far (by simp) _, hb1.set_ 0 (.int .i64 (pv a)), bset (by (repeat' (first | (with_reducible exact Below.refl _ _) | (with_reducible assumption) | (with_reducible refine balloc ?_ _) | (with_reducible refine Below.drew ?_) | (with_reducible refine bset ?_ ?_ _) | (with_reducible refine bstep ?_ (by with_reducible assumption)) | (with_reducible refine bturn ?_ (by with_reducible assumption) ?_) | go_size))) (by simp) _, fun _ => HGa.out, by omega, by omega⟩
          case measure => decide
        | false =>
          have hg : goodP 4 a = false := by unfold goodP; rw [hdg]; simp
          have HTb := Lib.hid (fun w => trim_bad (s := a) (by omega) hdg w)
          have HGa := Lib.hid hg
          clear hdg hg hsz
          go_wp2_with fail
          refine (HTb.out _).mono ?_
          rintro e w2 ⟨⟨R, rfl, hR⟩, hw2⟩
          go_wp2
          go_returns
          exact ⟨by rw [HR.out, HGa.out]; simp, by (repeat' (first | (with_reducible exact Below.refl _ _) | (with_reducible assumption) | (with_reducible refine balloc ?_ _) | (with_reducible refine Below.drew ?_) | (with_reducible refine bset ?_ ?_ _) | (with_reducible refine bstep ?_ (by with_reducible assumption)) | (with_reducible refine bturn ?_ (by with_reducible assumption) ?_) | go_size))⟩
      · have hszi : ¬ (a.size : Int) = 4 := by omega
        have hg : goodP 4 a = false := by unfold goodP; simp [hsz]
        have HGa := Lib.hid hg
        clear hg hsz
        go_wp2
        go_returns
        exact ⟨by rw [HR.out, HGa.out]; simp, by (repeat' (first | (with_reducible exact Below.refl _ _) | (with_reducible assumption) | (with_reducible refine balloc ?_ _) | (with_reducible refine Below.drew ?_) | (with_reducible refine bset ?_ ?_ _) | (with_reducible refine bstep ?_ (by with_reducible assumption)) | (with_reducible refine bturn ?_ (by with_reducible assumption) ?_) | go_size))⟩
    · obtain rfl : _ = Value.int .i64 1 := hi
      clear hk
      by_cases hsz : b.size = 2
      · have hszi : (b.size : Int) = 2 := by omega
        cases hdg : allDig b.data.toList with
        | true =>
          have hg : goodP 2 b = true := by unfold goodP; rw [hsz, hdg]; rfl
          have HTr := Lib.hid (fun w => trim_good (s := b) (by omega) hdg w)
          have HAt := Lib.hid (fun w => atoi_good (k := 2) (by omega) (by omega) hg w)
          have HGa := Lib.hid hg
          clear hdg hg hsz
          go_wp2_with fail
          refine (HTr.out _).mono ?_
          rintro e w2 ⟨rfl, hw2⟩
          go_wp2_with fail
          refine (HAt.out _).mono ?_
          rintro e w3 ⟨rfl, hw3⟩
          replace hb0 := (hb0.step hw2).step hw3
          replace hb1 := (hb1.step hw2).step hw3
          have z0 := hb1.frozen 1
          have d0 : w3.cell? ⟨w.heap.size + 1, 1, none⟩ = some (.int .i64 0) := hb1.cell 1
          clear c0 c1 c2
          go_wp2
          go_roundw
          case rel => exact ⟨2, by omega, by rfl, hb0.far (by simp) _, hb1.set_ 1 (.int .i64 (pv b)), bset (by (repeat' (first | (with_reducible exact Below.refl _ _) | (with_reducible assumption) | (with_reducible refine balloc ?_ _) | (with_reducible refine Below.drew ?_) | (with_reducible refine bset ?_ ?_ _) | (with_reducible refine bstep ?_ (by with_reducible assumption)) | (with_reducible refine bturn ?_ (by with_reducible assumption) ?_) | go_size))) (by simp) _, fun _ => HG.out.1 (by omega), fun _ => HGa.out, by omega⟩
          case measure => decide
        | false =>
          have hg : goodP 2 b = false := by unfold goodP; rw [hdg]; simp
          have HTb := Lib.hid (fun w => trim_bad (s := b) (by omega) hdg w)
          have HGa := Lib.hid hg
          clear hdg hg hsz
          go_wp2_with fail
          refine (HTb.out _).mono ?_
          rintro e w2 ⟨⟨R, rfl, hR⟩, hw2⟩
          go_wp2
          go_returns
          exact ⟨by rw [HR.out, HGa.out]; simp, by (repeat' (first | (with_reducible exact Below.refl _ _) | (with_reducible assumption) | (with_reducible refine balloc ?_ _) | (with_reducible refine Below.drew ?_) | (with_reducible refine bset ?_ ?_ _) | (with_reducible refine bstep ?_ (by with_reducible assumption)) | (with_reducible refine bturn ?_ (by with_reducible assumption) ?_) | go_size))⟩
      · have hszi : ¬ (b.size : Int) = 2 := by omega
        have hg : goodP 2 b = false := by unfold goodP; simp [hsz]
        have HGa := Lib.hid hg
        clear hg hsz
        go_wp2
        go_returns
        exact ⟨by rw [HR.out, HGa.out]; simp, by (repeat' (first | (with_reducible exact Below.refl _ _) | (with_reducible assumption) | (with_reducible refine balloc ?_ _) | (with_reducible refine Below.drew ?_) | (with_reducible refine bset ?_ ?_ _) | (with_reducible refine bstep ?_ (by with_reducible assumption)) | (with_reducible refine bturn ?_ (by with_reducible assumption) ?_) | go_size))⟩
    · obtain rfl : _ = Value.int .i64 2 := hi
      clear hk
      by_cases hsz : c.size = 2
      · have hszi : (c.size : Int) = 2 := by omega
        cases hdg : allDig c.data.toList with
        | true =>
          have hg : goodP 2 c = true := by unfold goodP; rw [hsz, hdg]; rfl
          have HTr := Lib.hid (fun w => trim_good (s := c) (by omega) hdg w)
          have HAt := Lib.hid (fun w => atoi_good (k := 2) (by omega) (by omega) hg w)
          have HGa := Lib.hid hg
          clear hdg hg hsz
          go_wp2_with fail
          refine (HTr.out _).mono ?_
          rintro e w2 ⟨rfl, hw2⟩
          go_wp2_with fail
          refine (HAt.out _).mono ?_
          rintro e w3 ⟨rfl, hw3⟩
          replace hb0 := (hb0.step hw2).step hw3
          replace hb1 := (hb1.step hw2).step hw3
          have z0 := hb1.frozen 2
          have d0 : w3.cell? ⟨w.heap.size + 1, 2, none⟩ = some (.int .i64 0) := hb1.cell 2
          clear c0 c1 c2
          go_wp2
          go_roundw
          case rel => exact ⟨3, by omega, by rfl, hb0.far (by simp) _, hb1.set_ 2 (.int .i64 (pv c)), bset (by (repeat' (first | (with_reducible exact Below.refl _ _) | (with_reducible assumption) | (with_reducible refine balloc ?_ _) | (with_reducible refine Below.drew ?_) | (with_reducible refine bset ?_ ?_ _) | (with_reducible refine bstep ?_ (by with_reducible assumption)) | (with_reducible refine bturn ?_ (by with_reducible assumption) ?_) | go_size))) (by simp) _, fun _ => HG.out.1 (by omega), fun _ => HG.out.2.1 (by omega), fun _ => HGa.out⟩
          case measure => decide
        | false =>
          have hg : goodP 2 c = false := by unfold goodP; rw [hdg]; simp
          have HTb := Lib.hid (fun w => trim_bad (s := c) (by omega) hdg w)
          have HGa := Lib.hid hg
          clear hdg hg hsz
          go_wp2_with fail
          refine (HTb.out _).mono ?_
          rintro e w2 ⟨⟨R, rfl, hR⟩, hw2⟩
          go_wp2
          go_returns
          exact ⟨by rw [HR.out, HGa.out]; simp, by (repeat' (first | (with_reducible exact Below.refl _ _) | (with_reducible assumption) | (with_reducible refine balloc ?_ _) | (with_reducible refine Below.drew ?_) | (with_reducible refine bset ?_ ?_ _) | (with_reducible refine bstep ?_ (by with_reducible assumption)) | (with_reducible refine bturn ?_ (by with_reducible assumption) ?_) | go_size))⟩
      · have hszi : ¬ (c.size : Int) = 2 := by omega
        have hg : goodP 2 c = false := by unfold goodP; simp [hsz]
        have HGa := Lib.hid hg
        clear hg hsz
        go_wp2
        go_returns
        exact ⟨by rw [HR.out, HGa.out]; simp, by (repeat' (first | (with_reducible exact Below.refl _ _) | (with_reducible assumption) | (with_reducible refine balloc ?_ _) | (with_reducible refine Below.drew ?_) | (with_reducible refine bset ?_ ?_ _) | (with_reducible refine bstep ?_ (by with_reducible assumption)) | (with_reducible refine bturn ?_ (by with_reducible assumption) ?_) | go_size))⟩
    · obtain rfl : _ = Value.int .i64 3 := hi
      have d0 : wr.cell? ⟨w.heap.size + 1, 0, none⟩ = some (.int .i64 (pv a)) := hb1.cell 0
      have d1 : wr.cell? ⟨w.heap.size + 1, 1, none⟩ = some (.int .i64 (pv b)) := hb1.cell 1
      have d2 : wr.cell? ⟨w.heap.size + 1, 2, none⟩ = some (.int .i64 (pv c)) := hb1.cell 2
      clear c0 c1 c2 hk
      go_wp2_with fail
      refine (day_any (pv a) (pv b) (pv c) _).mono ?_
      rintro e w2 ⟨rfl, rfl⟩
      go_wp2
      go_returns
      exact ⟨by rw [HR.out, HG.out.1 (by omega), HG.out.2.1 (by omega), HG.out.2.2 (by omega)]; rfl, by (repeat' (first | (with_reducible exact Below.refl _ _) | (with_reducible assumption) | (with_reducible refine balloc ?_ _) | (with_reducible refine Below.drew ?_) | (with_reducible refine bset ?_ ?_ _) | (with_reducible refine bstep ?_ (by with_reducible assumption)) | (with_reducible refine bturn ?_ (by with_reducible assumption) ?_) | go_size))⟩
end Go.Proofs.YtkkeplmaphcblaaGreatDoor.Days

namespace Go.Proofs.YtkkeplmaphcblaaGreatDoor.Days
open Go.RowKit
open Go.Lib hiding intOf

theorem parse_awake (m : Int) (w : World) (hm : w.cell? ⟨1, 0, none⟩ = some (.int .i64 m)) :
    Calls Tryz.prog 165 #[.string ⟨#[50, 48, 48, 48, 45, 48, 51, 45, 48, 49]⟩] w fun e w' => e = .returned (.tuple #[.int .i64 730179, .int .i64 0]) ∧ Below w.heap.size w w' := by
  refine (parse_parts ⟨#[50, 48, 48, 48, 45, 48, 51, 45, 48, 49]⟩ ⟨#[50, 48, 48, 48]⟩ ⟨#[48, 51]⟩ ⟨#[48, 49]⟩ m (by decide) (by decide) (by decide) (by decide) (by decide +kernel) (by decide +kernel) w hm).mono ?_
  rintro e w' ⟨rfl, hb⟩
  exact ⟨by rw [show (parseR ⟨#[50, 48, 48, 48]⟩ ⟨#[48, 51]⟩ ⟨#[48, 49]⟩).n = 730179 by decide +kernel, show (parseR ⟨#[50, 48, 48, 48]⟩ ⟨#[48, 51]⟩ ⟨#[48, 49]⟩).e = 0 by decide +kernel], hb⟩
theorem text_awake (w : World) (htab : Lib.TabIs Tryz.prog w "internal/strconv.uint64pow10" .u64 Lib.pow10Tab) :
    Calls Tryz.prog 142 #[.int .i64 730119] w fun e w' => e = .returned (.tuple #[.string ⟨#[50, 48, 48, 48, 45, 48, 49, 45, 48, 49]⟩, .int .i64 0]) ∧ Below w.heap.size w w' := by
  refine (text_ok 730119 2000 0 (by decide) (by decide) (by decide) (by decide) (by decide) (by decide +kernel) (by decide +kernel) (by decide +kernel) (by decide +kernel) w htab).mono ?_
  rintro e w' ⟨rfl, hb⟩
  exact ⟨by rw [show (⟨(textL (2000 : Int).toNat (0 + 1) (730119 - firstS 2000 - cumS 2000 0 + 1).toNat).toArray⟩ : ByteArray) = ⟨#[50, 48, 48, 48, 45, 48, 49, 45, 48, 49]⟩ by decide +kernel], hb⟩

theorem leap_day (y : Int) : (dayR y 2 29).e = if 1 ≤ y ∧ y ≤ 9999 ∧ leapB y = true then 0 else 3 := by
  unfold dayR
  by_cases h : okD y 2 29
  · rw [if_pos h]
    obtain ⟨g1, g2, _, _, _, g6⟩ := h
    have : leapB y = true := by
      apply Classical.byContradiction
      intro hn
      unfold lenS at g6
      rw [if_pos rfl, if_neg hn] at g6
      omega
    rw [if_pos ⟨g1, g2, this⟩]
  · rw [if_neg h]
    rw [if_neg]
    rintro ⟨g1, g2, g3⟩
    apply h
    refine ⟨g1, g2, by omega, by omega, by omega, ?_⟩
    unfold lenS
    rw [if_pos rfl, if_pos g3]
    omega

end Go.Proofs.YtkkeplmaphcblaaGreatDoor.Days

namespace Go.Proofs.YtkkeplmaphcblaaGreatDoor.Days
open Go.RowKit
open Go.Lib hiding intOf

def isD (b : UInt8) : Bool := decide (48 ≤ b.toNat ∧ b.toNat ≤ 57)
def okAt (i : Nat) (b : UInt8) : Bool := if i = 4 ∨ i = 7 then b == 45 else isD b
def byteAt (s : ByteArray) (j : Nat) : UInt8 := s.data.toList.getD j 0
theorem byteAt_eq (s : ByteArray) (j : Nat) (h : j < s.size) : byteAt s j = s[j] := by
  unfold byteAt
  rw [List.getD_eq_getElem?_getD, Lib.data_getElem? s j h]
  rfl
/-- The number that the digits from place o on spell. -/
def fold10 (s : ByteArray) (o : Nat) : Nat → Nat
  | 0 => 0
  | k + 1 => fold10 s o k * 10 + ((byteAt s (o + k)).toNat - 48)
theorem fold_bd (s : ByteArray) (o : Nat) : ∀ k : Nat, (∀ j, j < k → isD (byteAt s (o + j)) = true) → fold10 s o k < 10 ^ k
  | 0, _ => by simp [fold10]
  | k + 1, h => by
    have h1 := fold_bd s o k fun j hj => h j (by omega)
    have h2 := of_decide_eq_true (h k (by omega))
    rw [fold10, Nat.pow_succ]
    omega
def wf (s : ByteArray) : Prop := s.size = 10 ∧ ∀ j, j < 10 → okAt j (byteAt s j) = true
def kk (i : Nat) : Int := if i ≤ 4 then 0 else if i ≤ 7 then 1 else 2
theorem ok_dig {i : Nat} {b : UInt8} (h : okAt i b = true) (h4 : i ≠ 4) (h7 : i ≠ 7) : isD b = true := by unfold okAt at h; rw [if_neg (by omega)] at h; exact h
theorem ok_not {i : Nat} {b : UInt8} (h : isD b = false) (h4 : i ≠ 4) (h7 : i ≠ 7) : okAt i b = false := by unfold okAt; rw [if_neg (by omega)]; exact h

end Go.Proofs.YtkkeplmaphcblaaGreatDoor.Days

namespace Go.Proofs.YtkkeplmaphcblaaGreatDoor.Days
open Go.RowKit
open Go.Lib hiding intOf

theorem good_pd (k n : Nat) : goodP k ⟨(pd k n).toArray⟩ = true := by
  unfold goodP
  rw [Bool.and_eq_true]
  refine ⟨?_, allDig_pd k n⟩
  rw [beq_iff_eq]
  exact pd_length k n
theorem pv_pd (k n : Nat) (h : n < 10 ^ k) : pv ⟨(pd k n).toArray⟩ = n := by
  unfold pv
  show (((decFrom 0 (pd k n)).getD 0 : Nat) : Int) = n
  rw [decFrom_pd k n h]
  rfl
theorem splitB_of {s : ByteArray} {k : Nat} {L : List (List UInt8)} (h : splitK [45] 0 k s.data.toList = L) : splitB ⟨#[45]⟩ 0 k s = L.map fun l => ⟨l.toArray⟩ := by
  have h1 := splitB_data ⟨#[45]⟩ 0 k s
  rw [show (⟨#[45]⟩ : ByteArray).data.toList = [45] from rfl, h] at h1
  rw [← h1, List.map_map]
  conv => lhs; rw [← List.map_id (splitB ⟨#[45]⟩ 0 k s)]
  apply List.map_congr_left
  intro a _
  rfl
theorem parse_text (y m d : Nat) (hy : y < 10000) (hmo : m < 100) (hd : d < 100) (q : Int) (s : ByteArray) (hs : ⟨(textL y m d).toArray⟩ = s) (w : World) (hm : w.cell? ⟨1, 0, none⟩ = some (.int .i64 q)) :
    Calls Tryz.prog 165 #[.string s] w fun e w' => e = .returned (.tuple #[.int .i64 (dayR y m d).n, .int .i64 (dayR y m d).e]) ∧ Below w.heap.size w w' := by
  subst hs
  obtain ⟨h1, h2⟩ := split3 (a := pd 4 y) (b := pd 2 m) (c := pd 2 d) (allDig_no45 (allDig_pd _ _)) (allDig_no45 (allDig_pd _ _)) (allDig_no45 (allDig_pd _ _))
  have hsz : (⟨(textL y m d).toArray⟩ : ByteArray).size = 10 := textL_length y m d
  have h3 : splitB ⟨#[45]⟩ 0 2 ⟨(textL y m d).toArray⟩ = [⟨(pd 4 y).toArray⟩, ⟨(pd 2 m).toArray⟩, ⟨(pd 2 d).toArray⟩] := splitB_of (s := ⟨(textL y m d).toArray⟩) (L := [pd 4 y, pd 2 m, pd 2 d]) h2
  refine (parse_parts ⟨(textL y m d).toArray⟩ ⟨(pd 4 y).toArray⟩ ⟨(pd 2 m).toArray⟩ ⟨(pd 2 d).toArray⟩ q (by omega) ?_ ?_ ?_ h1 h3 w hm).mono ?_
  · show (pd 4 y).toArray.size ≤ _; simp [pd_length]
  · show (pd 2 m).toArray.size ≤ _; simp [pd_length]
  · show (pd 2 d).toArray.size ≤ _; simp [pd_length]
  rintro e w' ⟨rfl, hb⟩
  refine ⟨?_, hb⟩
  unfold parseR
  simp only [good_pd, Bool.and_self, if_true]
  rw [pv_pd 4 y (by omega), pv_pd 2 m (by omega), pv_pd 2 d (by omega)]

theorem len_12 (y : Int) : lenS y 12 = 31 := by simp [lenS]
/-- What date the day behind a date has. -/
theorem next_date {k y : Int} {m : Nat} (k1 : k < 3652058) (a : 1 ≤ y) (b : y ≤ 9999) (c : m < 12) (d : firstS y + cumS y m ≤ k) (e : k < firstS y + cumS y (m + 1)) (f : firstS y ≤ k) (g : k < firstS (y + 1)) :
    ∃ p1 p2 p3 : Int, (∀ w, Calls Tryz.prog 187 #[.int .i64 (k + 1)] w fun e w' => e = .returned (.tuple #[.int .i64 p1, .int .i64 p2, .int .i64 p3, .int .i64 0]) ∧ w = w') ∧
      ((p1 = y ∧ p2 = (m : Int) + 1 ∧ p3 = k - firstS y - cumS y m + 1 + 1) ∨ (p1 = y ∧ p2 = (m : Int) + 1 + 1 ∧ p3 = 1 ∧ 28 ≤ k - firstS y - cumS y m + 1) ∨ (p1 = y + 1 ∧ p2 = 1 ∧ p3 = 1 ∧ (m : Int) + 1 = 12 ∧ k - firstS y - cumS y m + 1 = 31)) := by
  have hf := first_ge a
  have hc := cum_bd y m
  have hl := len_bd y ((m : Int) + 1)
  have hs := cum_succ y m
  have hy := first_succ y
  have h12 := cum_12 y
  by_cases h1 : k + 1 < firstS y + cumS y (m + 1)
  · have hm2 := cum_mono y (a := m + 1) (b := 12) (by omega)
    refine ⟨_, _, _, fun w => date_ok (k + 1) y m (by omega) (by omega) a b c (by omega) h1 (by omega) (by omega) w, .inl ⟨rfl, rfl, by omega⟩⟩
  · by_cases h2 : m + 1 < 12
    · have hm2 := cum_mono y (a := m + 1 + 1) (b := 12) (by omega)
      have hl2 := len_bd y (((m + 1 : Nat) : Int) + 1)
      have hs2 := cum_succ y (m + 1)
      refine ⟨_, _, _, fun w => date_ok (k + 1) y (m + 1) (by omega) (by omega) a b h2 (by omega) (by omega) (by omega) (by omega) w, .inr (.inl ⟨rfl, by omega, by omega, by omega⟩)⟩
    · have hm11 : m = 11 := by omega
      subst hm11
      have hl12 := len_12 y
      have hs' : cumS y 12 = cumS y 11 + lenS y 12 := hs
      have e' : k < firstS y + cumS y 12 := e
      have h1' : ¬ k + 1 < firstS y + cumS y 12 := h1
      clear hs hl e h1 hc
      have hy2 := first_succ (y + 1)
      have hyb := year_bd (y + 1)
      have hs1 := cum_succ (y + 1) 0
      have hl1 := len_bd (y + 1) (((0 : Nat) : Int) + 1)
      have h0 : cumS (y + 1) 0 = 0 := rfl
      have hy9 : y ≤ 9998 := by
        apply Int.le_of_not_gt
        intro hgt
        obtain rfl : y = 9999 := by omega
        have := first_10000
        rw [show (9999 : Int) + 1 = 10000 by decide] at hy g
        omega
      have hs1' : cumS (y + 1) (0 + 1) = cumS (y + 1) 0 + lenS (y + 1) (((0 : Nat) : Int) + 1) := hs1
      refine ⟨_, _, _, fun w => date_ok (k + 1) (y + 1) 0 (by omega) (by omega) (by omega) (by omega) (by omega) (by omega) (by omega) (by omega) (by omega) w, .inr (.inr ⟨rfl, by rfl, by omega, by rfl, by omega⟩)⟩

end Go.Proofs.YtkkeplmaphcblaaGreatDoor.Days
