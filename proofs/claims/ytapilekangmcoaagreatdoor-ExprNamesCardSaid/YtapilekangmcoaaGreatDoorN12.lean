/- The walks of package deci: digits, Parse. The walk of Text at 12.5. -/
import Derived.Shelf.Strings.SlTrimAscii
import Derived.Lib.AtoiErrMem
import Derived.Test.YtapilekangmcoaaGreatDoorN11
set_option linter.unusedVariables false
set_option linter.unusedSimpArgs false
set_option maxHeartbeats 8000000
set_option maxRecDepth 100000
namespace Go.Proofs.YtapilekangmcoaaGreatDoor
open Go.RowKit
def cutset : ByteArray := ⟨#[48, 49, 50, 51, 52, 53, 54, 55, 56, 57]⟩
def digB (s : ByteArray) : Bool := !s.toList.isEmpty && (Lib.trimS s.data.toList cutset.data.toList).isEmpty
theorem trim_any (s : ByteArray) (hs : s.size ≤ 9223372036854775807) (w : World) :
   Calls Tryz.prog 155 #[.string s, .string ⟨#[48, 49, 50, 51, 52, 53, 54, 55, 56, 57]⟩] w fun e w' => e = .returned (.string ⟨(Lib.trimS s.data.toList cutset.data.toList).toArray⟩) ∧ Below w.heap.size w w' :=
 Any.strings_Trim_laid Tryz.lays160 (by kernel_rfl) s ⟨#[48, 49, 50, 51, 52, 53, 54, 55, 56, 57]⟩ w hs (by decide) (ascii_of_all (by decide))
theorem digits_any (s : ByteArray) (hs : s.size ≤ 9223372036854775807) (w : World) :
   Calls Tryz.prog 178 #[.string s] w fun e w' => e = .returned (.bool (digB s)) ∧ Below w.heap.size w w' := by
 by_cases h : s.toList = []
 · have HR : digB s = false := by unfold digB; rw [h]; rfl
   have h2 : s.toList.isEmpty = true := by rw [h]; rfl
   replace HR := Lib.hid HR
   go_enter Tryz.func178, Tryz.ntmps178
   go_wp2_with fail
   go_ret
   exact ⟨by rw [HR.out]; rfl, by (repeat' first | (with_reducible first | exact .refl _ _ | assumption | apply balloc | apply Below.drew | apply bset | refine bstep ?_ ‹_› | refine bturn ?_ ‹_› ?_) | go_size)⟩
 · have HR : digB s = (Lib.trimS s.data.toList cutset.data.toList).isEmpty := by unfold digB; simp [h]
   replace HR := Lib.hid HR
   go_enter Tryz.func178, Tryz.ntmps178
   go_wp2_with (first | (go_at_call 155; refine (trim_any s hs _).mono ?_; rintro e w' ⟨rfl, hb⟩))
   go_ret
   exact ⟨rfl, by (repeat' first | (with_reducible first | exact .refl _ _ | assumption | apply balloc | apply Below.drew | apply bset | refine bstep ?_ ‹_› | refine bturn ?_ ‹_› ?_) | go_size)⟩
theorem cut_lit (s a b : ByteArray) (d : Bool) (m : Int) (w : World) (hs : s.size < 4294967281) (hm : w.cell? ⟨5, 0, none⟩ = some (.int .i64 m))
   (h : Lib.cut s.data.toList [46] = (a.data.toList, b.data.toList, d)) :
   Calls Tryz.prog 177 #[.string s, .string ⟨#[46]⟩] w fun e w' => e = .returned (.tuple #[.string a, .string b, .bool d]) ∧ Below w.heap.size w w' := by
 refine (Tryz.strings_Cut s ⟨#[46]⟩ m w hs hm).mono ?_
 rintro e w' ⟨rfl, n, rfl⟩
 rw [show (⟨#[46]⟩ : ByteArray).data.toList = [46] from rfl, h]
 exact ⟨rfl, (Lib.below_grow _ w (Nat.le_refl _) n #[] : _)⟩
theorem prefix_lit (s a : ByteArray) (d : Bool) (w : World) (h : Lib.trimPrefix s.data.toList [45] = a.data.toList) (h2 : Lib.hasPrefix s.data.toList [45] = d) :
   Calls Tryz.prog 176 #[.string s, .string ⟨#[45]⟩] w fun e w' => e = .returned (.tuple #[.string a, .bool d]) ∧ w' = w := by
 refine (Tryz.strings_CutPrefix s ⟨#[45]⟩ w).mono ?_
 rintro e w' ⟨rfl, rfl⟩
 rw [show (⟨#[45]⟩ : ByteArray).data.toList = [45] from rfl, h, h2]
 exact ⟨rfl, rfl⟩
theorem right_lit (s a : ByteArray) (w : World) (hs : s.size ≤ 9223372036854775807) (h : Lib.trimRightB s.data.toList 48 = a.data.toList) :
   Calls Tryz.prog 179 #[.string s, .string ⟨#[48]⟩] w fun e w' => e = .returned (.string a) ∧ w' = w := by
 refine (Tryz.strings_TrimRight_one s 48 (by decide) w hs).mono ?_
 rintro e w' ⟨rfl, rfl⟩
 rw [h]
 exact ⟨rfl, rfl⟩
theorem uint_lit (s : ByteArray) (u : Nat) (w : World) (hs : s.size ≤ 9223372036854775806) (h : Lib.parseUintB 64 s.data.toList = .ok u) :
   Calls Tryz.prog 180 #[.string s, .int .i64 10, .int .i64 64] w fun e w' => e = .returned (.tuple #[.int .u64 u, .nilIface]) ∧ Below w.heap.size w w' := by
 refine (Tryz.strconv_ParseUint_10_at64_ok s hs u h w).mono ?_
 rintro e w' ⟨rfl, rfl | rfl⟩
 · exact ⟨rfl, Below.refl _ _⟩
 · exact ⟨rfl, Lib.bytesWorld_below _ _ _⟩
theorem p1 (W : World) : Calls Tryz.prog 176 #[.string ⟨#[49, 50, 46, 53, 48]⟩, .string ⟨#[45]⟩] W fun e w' => e = .returned (.tuple #[.string ⟨#[49, 50, 46, 53, 48]⟩, .bool false]) ∧ w' = W := prefix_lit ⟨#[49, 50, 46, 53, 48]⟩ ⟨#[49, 50, 46, 53, 48]⟩ false W (by decide +kernel) (by decide +kernel)
theorem p2 (m : Int) (W : World) (hm : W.cell? ⟨5, 0, none⟩ = some (.int .i64 m)) : Calls Tryz.prog 177 #[.string ⟨#[49, 50, 46, 53, 48]⟩, .string ⟨#[46]⟩] W fun e w' => e = .returned (.tuple #[.string ⟨#[49, 50]⟩, .string ⟨#[53, 48]⟩, .bool true]) ∧ Below W.heap.size W w' := cut_lit ⟨#[49, 50, 46, 53, 48]⟩ ⟨#[49, 50]⟩ ⟨#[53, 48]⟩ true m W (by decide) hm (by decide +kernel)
theorem d1 (W : World) : Calls Tryz.prog 178 #[.string ⟨#[49, 50]⟩] W fun e w' => e = .returned (.bool true) ∧ Below W.heap.size W w' := by
 have h := digits_any ⟨#[49, 50]⟩ (by decide) W
 rw [show digB ⟨#[49, 50]⟩ = true by decide +kernel] at h
 exact h
theorem d2 (W : World) : Calls Tryz.prog 178 #[.string ⟨#[53, 48]⟩] W fun e w' => e = .returned (.bool true) ∧ Below W.heap.size W w' := by
 have h := digits_any ⟨#[53, 48]⟩ (by decide) W
 rw [show digB ⟨#[53, 48]⟩ = true by decide +kernel] at h
 exact h
theorem p3 (W : World) : Calls Tryz.prog 179 #[.string ⟨#[53, 48]⟩, .string ⟨#[48]⟩] W fun e w' => e = .returned (.string ⟨#[53]⟩) ∧ w' = W := right_lit ⟨#[53, 48]⟩ ⟨#[53]⟩ W (by decide) (by decide +kernel)
theorem p4 (W : World) : Calls Tryz.prog 180 #[.string ⟨#[49, 50, 53]⟩, .int .i64 10, .int .i64 64] W fun e w' => e = .returned (.tuple #[.int .u64 125, .nilIface]) ∧ Below W.heap.size W w' := uint_lit ⟨#[49, 50, 53]⟩ 125 W (by decide) (by decide +kernel)
end Go.Proofs.YtapilekangmcoaaGreatDoor
namespace Go.Proofs.YtapilekangmcoaaGreatDoor
open Go.RowKit
attribute [local go_sem high] run_dec_eql run_dec_neq
theorem t1 (W : World) (htab : Lib.TabIs Tryz.prog W "internal/strconv.uint64pow10" .u64 Lib.pow10Tab) : Calls Tryz.prog 165 #[.int .u64 125, .int .i64 10] W fun e w' => e = .returned (.string ⟨#[49, 50, 53]⟩) ∧ Below W.heap.size W w' := by
 have h := fmt_any 125 (by decide) W htab
 rw [show (⟨(Lib.decDigits 125).toArray⟩ : ByteArray) = ⟨#[49, 50, 53]⟩ by decide +kernel] at h
 exact h
theorem t2 (W : World) : Calls Tryz.prog 166 #[.string ⟨#[48]⟩, .int .i64 0] W fun e w' => e = .returned (.string ⟨#[]⟩) ∧ w' = W := Tryz.strings_Repeat_zero ⟨#[48]⟩ W
end Go.Proofs.YtapilekangmcoaaGreatDoor
