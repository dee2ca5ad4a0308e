/- The walks of package deci: digits, Parse. The walk of Text at 12.5. -/
import Derived.Shelf.Strings.SlTrimAscii
import Derived.Lib.AtoiErrMem
import Derived.Test.YtkkeplmaphcblaaGreatDoorJ8
namespace Go.Proofs.YtkkeplmaphcblaaGreatDoor
open Go.RowKit

def cutset : ByteArray := ⟨#[48, 49, 50, 51, 52, 53, 54, 55, 56, 57]⟩
def digB (s : ByteArray) : Bool := !s.toList.isEmpty && (Lib.trimS s.data.toList cutset.data.toList).isEmpty

theorem trim_any (s : ByteArray) (hs : s.size ≤ 9223372036854775807) (w : World) :
    Calls Tryz.prog 58 #[.string s, .string ⟨#[48, 49, 50, 51, 52, 53, 54, 55, 56, 57]⟩] w fun e w' => e = .returned (.string ⟨(Lib.trimS s.data.toList cutset.data.toList).toArray⟩) ∧ Below w.heap.size w w' :=
  Any.strings_Trim_laid Tryz.lays160 (by kernel_rfl) s ⟨#[48, 49, 50, 51, 52, 53, 54, 55, 56, 57]⟩ w hs (by decide) (ascii_of_all (by decide))

theorem digits_any (s : ByteArray) (hs : s.size ≤ 9223372036854775807) (w : World) :
    Calls Tryz.prog 224 #[.string s] w fun e w' => e = .returned (.bool (digB s)) ∧ Below w.heap.size w w' := by
  by_cases h : s.toList = []
  · have HR : digB s = false := by unfold digB; rw [h]; rfl
    have h2 : s.toList.isEmpty = true := by rw [h]; rfl
    replace HR := Lib.hid HR
    go_enter Tryz.func224, Tryz.ntmps224
    go_wp2_with fail
    go_ret
    exact ⟨by rw [HR.out]; rfl, by (repeat' (first | (with_reducible exact Below.refl _ _) | (with_reducible assumption) | (with_reducible refine balloc ?_ _) | (with_reducible refine Below.drew ?_) | (with_reducible refine bset ?_ ?_ _) | (with_reducible refine bstep ?_ (by with_reducible assumption)) | (with_reducible refine bturn ?_ (by with_reducible assumption) ?_) | go_size))⟩
  · have HR : digB s = (Lib.trimS s.data.toList cutset.data.toList).isEmpty := by unfold digB; simp [h]
    replace HR := Lib.hid HR
    go_enter Tryz.func224, Tryz.ntmps224
    go_wp2_with (first | (go_at_call 58; refine (trim_any s hs _).mono ?_; rintro e w' ⟨rfl, hb⟩))
    go_ret
    exact ⟨rfl, by (repeat' (first | (with_reducible exact Below.refl _ _) | (with_reducible assumption) | (with_reducible refine balloc ?_ _) | (with_reducible refine Below.drew ?_) | (with_reducible refine bset ?_ ?_ _) | (with_reducible refine bstep ?_ (by with_reducible assumption)) | (with_reducible refine bturn ?_ (by with_reducible assumption) ?_) | go_size))⟩

theorem cut_lit (s a b : ByteArray) (d : Bool) (m : Int) (w : World) (hs : s.size < 4294967281) (hm : w.cell? ⟨1, 0, none⟩ = some (.int .i64 m))
    (h : Lib.cut s.data.toList [46] = (a.data.toList, b.data.toList, d)) :
    Calls Tryz.prog 223 #[.string s, .string ⟨#[46]⟩] w fun e w' => e = .returned (.tuple #[.string a, .string b, .bool d]) ∧ Below w.heap.size w w' := by
  refine (Tryz.strings_Cut s ⟨#[46]⟩ m w hs hm).mono ?_
  rintro e w' ⟨rfl, n, rfl⟩
  rw [show (⟨#[46]⟩ : ByteArray).data.toList = [46] from rfl, h]
  exact ⟨rfl, (Lib.below_grow _ w (Nat.le_refl _) n #[] : _)⟩

theorem prefix_lit (s a : ByteArray) (d : Bool) (w : World) (h : Lib.trimPrefix s.data.toList [45] = a.data.toList) (h2 : Lib.hasPrefix s.data.toList [45] = d) :
    Calls Tryz.prog 222 #[.string s, .string ⟨#[45]⟩] w fun e w' => e = .returned (.tuple #[.string a, .bool d]) ∧ w' = w := by
  refine (Tryz.strings_CutPrefix s ⟨#[45]⟩ w).mono ?_
  rintro e w' ⟨rfl, rfl⟩
  rw [show (⟨#[45]⟩ : ByteArray).data.toList = [45] from rfl, h, h2]
  exact ⟨rfl, rfl⟩

theorem right_lit (s a : ByteArray) (w : World) (hs : s.size ≤ 9223372036854775807) (h : Lib.trimRightB s.data.toList 48 = a.data.toList) :
    Calls Tryz.prog 225 #[.string s, .string ⟨#[48]⟩] w fun e w' => e = .returned (.string a) ∧ w' = w := by
  refine (Tryz.strings_TrimRight_one s 48 (by decide) w hs).mono ?_
  rintro e w' ⟨rfl, rfl⟩
  rw [h]
  exact ⟨rfl, rfl⟩

theorem uint_lit (s : ByteArray) (u : Nat) (w : World) (hs : s.size ≤ 9223372036854775806) (h : Lib.parseUintB 64 s.data.toList = .ok u) :
    Calls Tryz.prog 226 #[.string s, .int .i64 10, .int .i64 64] w fun e w' => e = .returned (.tuple #[.int .u64 u, .nilIface]) ∧ Below w.heap.size w w' := by
  refine (Tryz.strconv_ParseUint_10_at64_ok s hs u h w).mono ?_
  rintro e w' ⟨rfl, rfl | rfl⟩
  · exact ⟨rfl, Below.refl _ _⟩
  · exact ⟨rfl, Lib.bytesWorld_below _ _ _⟩

theorem p1 (W : World) : Calls Tryz.prog 222 #[.string ⟨#[49, 50, 46, 53, 48]⟩, .string ⟨#[45]⟩] W fun e w' => e = .returned (.tuple #[.string ⟨#[49, 50, 46, 53, 48]⟩, .bool false]) ∧ w' = W := prefix_lit ⟨#[49, 50, 46, 53, 48]⟩ ⟨#[49, 50, 46, 53, 48]⟩ false W (by decide +kernel) (by decide +kernel)
theorem p2 (m : Int) (W : World) (hm : W.cell? ⟨1, 0, none⟩ = some (.int .i64 m)) : Calls Tryz.prog 223 #[.string ⟨#[49, 50, 46, 53, 48]⟩, .string ⟨#[46]⟩] W fun e w' => e = .returned (.tuple #[.string ⟨#[49, 50]⟩, .string ⟨#[53, 48]⟩, .bool true]) ∧ Below W.heap.size W w' := cut_lit ⟨#[49, 50, 46, 53, 48]⟩ ⟨#[49, 50]⟩ ⟨#[53, 48]⟩ true m W (by decide) hm (by decide +kernel)
theorem d1 (W : World) : Calls Tryz.prog 224 #[.string ⟨#[49, 50]⟩] W fun e w' => e = .returned (.bool true) ∧ Below W.heap.size W w' := by
  have h := digits_any ⟨#[49, 50]⟩ (by decide) W
  rw [show digB ⟨#[49, 50]⟩ = true by decide +kernel] at h
  exact h
theorem d2 (W : World) : Calls Tryz.prog 224 #[.string ⟨#[53, 48]⟩] W fun e w' => e = .returned (.bool true) ∧ Below W.heap.size W w' := by
  have h := digits_any ⟨#[53, 48]⟩ (by decide) W
  rw [show digB ⟨#[53, 48]⟩ = true by decide +kernel] at h
  exact h
theorem p3 (W : World) : Calls Tryz.prog 225 #[.string ⟨#[53, 48]⟩, .string ⟨#[48]⟩] W fun e w' => e = .returned (.string ⟨#[53]⟩) ∧ w' = W := right_lit ⟨#[53, 48]⟩ ⟨#[53]⟩ W (by decide) (by decide +kernel)
theorem p4 (W : World) : Calls Tryz.prog 226 #[.string ⟨#[49, 50, 53]⟩, .int .i64 10, .int .i64 64] W fun e w' => e = .returned (.tuple #[.int .u64 125, .nilIface]) ∧ Below W.heap.size W w' := uint_lit ⟨#[49, 50, 53]⟩ 125 W (by decide) (by decide +kernel)

set_option maxHeartbeats 1000000 in
set_option maxRecDepth 100000 in
theorem parse_awake (m : Int) (w : World) (hm : w.cell? ⟨1, 0, none⟩ = some (.int .i64 m)) :
    Calls Tryz.prog 201 #[.string ⟨#[49, 50, 46, 53, 48]⟩] w fun e w' => e = .returned (.tuple #[.agg #[.int .i64 125, .int .i64 1], .int .i64 0]) ∧ Below w.heap.size w w' := by
  have hb1 := Blk.new w 23 #[.int .i64 0, .int .i64 0]
  have HM := Lib.hid hm
  have hm2 : (w.alloc (.cells #[.int .i64 0, .int .i64 0] 23)).cell? ⟨1, 0, none⟩ = some (.int .i64 m) := by exact (World.cell?_alloc_some w _ _ (by rw [hm]; rfl)).trans hm
  clear hm
  replace hm2 := Lib.hid hm2
  go_enter Tryz.func201, Tryz.ntmps201
  go_wp2_with fail
  refine (p1 _).mono ?_
  rintro e w1 ⟨rfl, rfl⟩
  go_wp2_with fail
  refine (p2 m _ hm2.out).mono ?_
  rintro e w2 ⟨rfl, hb2⟩
  replace hb1 := hb1.step hb2
  go_wp2_with fail
  refine (d1 _).mono ?_
  rintro e w3 ⟨rfl, hb3⟩
  replace hb1 := hb1.step hb3
  go_wp2_with fail
  refine (d2 _).mono ?_
  rintro e w4 ⟨rfl, hb4⟩
  replace hb1 := hb1.step hb4
  go_wp2_with fail
  refine (p3 _).mono ?_
  rintro e w5 ⟨rfl, rfl⟩
  go_wp2_with fail
  refine (p4 _).mono ?_
  rintro e w6 ⟨rfl, hb6⟩
  replace hb1 := hb1.step hb6
  go_wp2_with fail
  refine (dec_any 125 1 false (by omega) (by omega) (by omega) (by omega) _).mono ?_
  rintro e w7 ⟨rfl, hb7⟩
  replace hb1 := hb1.step hb7
  go_wp2_with (refine wpList_store_blk hb1 rfl _ _ _ (by rfl) _ (by rfl) (by rfl) (by (repeat (first | (with_reducible exact hb1) | (with_reducible refine Blk.alloc ?_ _) | (with_reducible refine Blk.drew ?_) | (with_reducible refine Blk.far ?_ (by first | (simp; done) | (simp; omega)) _) | (with_reducible refine Blk.turn ?_ (by with_reducible assumption) (by omega))))) (by rfl) (by kernel_rfl) (by simp [Value.oneCell']) ?_; intro wt hb1n ht)
  refine ret_blk2 rfl hb1n rfl Tryz.underlying23 rfl (by kernel_rfl) rfl ?_
  exact ⟨by rw [show (decS 1 125 false).n = 125 by decide +kernel, show (decS 1 125 false).s = 1 by decide +kernel, show (decS 1 125 false).e = 0 by decide +kernel]; rfl, by (repeat' (first | (with_reducible exact Below.refl _ _) | (with_reducible assumption) | (with_reducible refine balloc ?_ _) | (with_reducible refine Below.drew ?_) | (with_reducible refine bset ?_ ?_ _) | (with_reducible refine bstep ?_ (by with_reducible assumption)) | (with_reducible refine bturn ?_ (by with_reducible assumption) ?_) | go_size))⟩
end Go.Proofs.YtkkeplmaphcblaaGreatDoor

namespace Go.Proofs.YtkkeplmaphcblaaGreatDoor
open Go.RowKit
attribute [local go_sem high] run_dec_eql run_dec_neq

theorem t1 (W : World) (htab : Lib.TabIs Tryz.prog W "internal/strconv.uint64pow10" .u64 Lib.pow10Tab) : Calls Tryz.prog 183 #[.int .u64 125, .int .i64 10] W fun e w' => e = .returned (.string ⟨#[49, 50, 53]⟩) ∧ Below W.heap.size W w' := by
  have h := fmt_any 125 (by decide) W htab
  rw [show (⟨(Lib.decDigits 125).toArray⟩ : ByteArray) = ⟨#[49, 50, 53]⟩ by decide +kernel] at h
  exact h
theorem t2 (W : World) : Calls Tryz.prog 184 #[.string ⟨#[48]⟩, .int .i64 0] W fun e w' => e = .returned (.string ⟨#[]⟩) ∧ w' = W := Tryz.strings_Repeat_zero ⟨#[48]⟩ W

set_option maxHeartbeats 1000000 in
set_option maxRecDepth 100000 in
theorem text_awake (w : World) (htab : Lib.TabIs Tryz.prog w "internal/strconv.uint64pow10" .u64 Lib.pow10Tab) :
    Calls Tryz.prog 139 #[.agg #[.int .i64 125, .int .i64 1]] w fun e w' => e = .returned (.tuple #[.string ⟨#[49, 50, 46, 53]⟩, .int .i64 0]) ∧ Below w.heap.size w w' := by
  have hb0 := Blk.new w 23 #[.int .i64 125, .int .i64 1]
  have hs : soundS 125 1 = true := by decide +kernel
  have HT := Lib.hid (Lib.tabBelow_of_tabIs htab)
  clear htab
  go_enter Tryz.func139, Tryz.ntmps139
  go_wp2_with fail
  refine (all_1 125 1 (by unfold I64; omega) (by unfold I64; omega) _ _ 23 _ (Blk.new' _ _ _ (by simp))).mono ?_
  rintro e w1 ⟨rfl, hb⟩
  replace hb0 := (hb0.alloc _).step hb
  rw [if_pos hs]
  clear hs
  have c0 := hb0.cell 0
  have c1 := hb0.cell 1
  simp at c0 c1
  go_wp2_with (first | (go_at_call 174; refine (size_any 125 1 (by omega) (by omega) _).mono ?_; rintro e w' ⟨rfl, rfl⟩))
  rw [show mag 125 = 125 by decide +kernel]
  refine (t1 _ (HT.out _ (by (repeat' (first | (with_reducible exact Below.refl _ _) | (with_reducible assumption) | (with_reducible refine balloc ?_ _) | (with_reducible refine Below.drew ?_) | (with_reducible refine bset ?_ ?_ _) | (with_reducible refine bstep ?_ (by with_reducible assumption)) | (with_reducible refine bturn ?_ (by with_reducible assumption) ?_) | go_size))))).mono ?_
  rintro e w2 ⟨rfl, hb2⟩
  replace hb0 := (hb0.alloc _).step hb2
  have c2 := hb0.cell 0
  have c3 := hb0.cell 1
  simp at c2 c3
  go_wp2_with fail
  refine (t2 _).mono ?_
  rintro e w3 ⟨rfl, rfl⟩
  go_wp2_with fail
  have k2 : IntKind.i64.wrap 2 = 2 := by decide
  go_region_held3 (fun w' => w'.cell? ⟨w.heap.size, 0, none⟩ = some (.int .i64 125) ∧ w'.cell? ⟨w.heap.size, 1, none⟩ = some (.int .i64 1)) ((first | (simp [*]; done) | (go_split_ands; (repeat' apply And.intro) <;> first | assumption | exact keep1 (by assumption) (by assumption) | (simp [go_sem]; done) | (repeat (first | (with_reducible assumption) | (with_reducible refine keepd ?_) | (with_reducible refine keepa2 ?_)))))) (fail)
  go_wp2_with fail
  go_returns
  exact ⟨by kernel_rfl, by (repeat' (first | (with_reducible exact Below.refl _ _) | (with_reducible assumption) | (with_reducible refine balloc ?_ _) | (with_reducible refine Below.drew ?_) | (with_reducible refine bset ?_ ?_ _) | (with_reducible refine bstep ?_ (by with_reducible assumption)) | (with_reducible refine bturn ?_ (by with_reducible assumption) ?_) | go_size))⟩
end Go.Proofs.YtkkeplmaphcblaaGreatDoor
