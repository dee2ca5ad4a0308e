/- The walks of package deci: digits, Parse. -/
import Derived.Test.YtlmcjnekkhdmiaaDoorFmtA
import Derived.Test.YtlmcjnekkhdmiaaDoorCutW
import Derived.Shelf.Strings.SlTrimAscii
import Derived.Lib.AtoiErrMem
set_option linter.unusedVariables false
set_option linter.unusedSimpArgs false
namespace Go.Proofs.YtlmcjnekkhdmiaaDoor
open Go.RowKit

def cutset : ByteArray := ⟨#[48, 49, 50, 51, 52, 53, 54, 55, 56, 57]⟩
def digB (s : ByteArray) : Bool := !s.toList.isEmpty && (Lib.trimS s.data.toList cutset.data.toList).isEmpty

theorem trim_any (s : ByteArray) (hs : s.size ≤ 9223372036854775807) (w : World) :
    Calls Tryd.prog 34 #[.string s, .string ⟨#[48, 49, 50, 51, 52, 53, 54, 55, 56, 57]⟩] w fun e w' => e = .returned (.string ⟨(Lib.trimS s.data.toList cutset.data.toList).toArray⟩) ∧ Below w.heap.size w w' :=
  Any.strings_Trim_laid Tryd.lays160 (by kernel_rfl) s ⟨#[48, 49, 50, 51, 52, 53, 54, 55, 56, 57]⟩ w hs (by decide) (ascii_of_all (by decide))

theorem digits_any (s : ByteArray) (hs : s.size ≤ 9223372036854775807) (w : World) :
    Calls Tryd.prog 17 #[.string s] w fun e w' => e = .returned (.bool (digB s)) ∧ Below w.heap.size w w' := by
  by_cases h : s.toList = []
  · have HR : digB s = false := by unfold digB; rw [h]; rfl
    have h2 : s.toList.isEmpty = true := by rw [h]; rfl
    replace HR := Lib.hid HR
    go_enter Tryd.func17, Tryd.ntmps17
    go_wp2_with fail
    go_ret
    exact ⟨by rw [HR.out]; rfl, by (repeat' first | (with_reducible first | exact .refl _ _ | assumption | apply balloc | apply Below.drew | apply bset | refine bstep ?_ ‹_› | refine bturn ?_ ‹_› ?_) | go_size)⟩
  · have HR : digB s = (Lib.trimS s.data.toList cutset.data.toList).isEmpty := by unfold digB; simp [h]
    replace HR := Lib.hid HR
    go_enter Tryd.func17, Tryd.ntmps17
    go_wp2_with (first | (go_at_call 34; refine (trim_any s hs _).mono ?_; rintro e w' ⟨rfl, hb⟩))
    go_ret
    exact ⟨rfl, by (repeat' first | (with_reducible first | exact .refl _ _ | assumption | apply balloc | apply Below.drew | apply bset | refine bstep ?_ ‹_› | refine bturn ?_ ‹_› ?_) | go_size)⟩

theorem cut_lit (s a b : ByteArray) (d : Bool) (m : Int) (w : World) (hs : s.size < 140737488351233) (hm : w.cell? ⟨1, 0, none⟩ = some (.int .i64 m))
    (h : Lib.cut s.data.toList [46] = (a.data.toList, b.data.toList, d)) :
    Calls Tryd.prog 16 #[.string s, .string ⟨#[46]⟩] w fun e w' => e = .returned (.tuple #[.string a, .string b, .bool d]) ∧ Below w.heap.size w w' :=
  cut_dot s a b d w (by omega) h

theorem prefix_lit (s a : ByteArray) (d : Bool) (w : World) (h : Lib.trimPrefix s.data.toList [45] = a.data.toList) (h2 : Lib.hasPrefix s.data.toList [45] = d) :
    Calls Tryd.prog 15 #[.string s, .string ⟨#[45]⟩] w fun e w' => e = .returned (.tuple #[.string a, .bool d]) ∧ w' = w := by
  refine (Tryd.strings_CutPrefix s ⟨#[45]⟩ w).mono ?_
  rintro e w' ⟨rfl, rfl⟩
  rw [show (⟨#[45]⟩ : ByteArray).data.toList = [45] from rfl, h, h2]
  exact ⟨rfl, rfl⟩

theorem right_lit (s a : ByteArray) (w : World) (hs : s.size ≤ 9223372036854775807) (h : Lib.trimRightB s.data.toList 48 = a.data.toList) :
    Calls Tryd.prog 18 #[.string s, .string ⟨#[48]⟩] w fun e w' => e = .returned (.string a) ∧ w' = w := by
  refine (Tryd.strings_TrimRight_one s 48 (by decide) w hs).mono ?_
  rintro e w' ⟨rfl, rfl⟩
  rw [h]
  exact ⟨rfl, rfl⟩

theorem uint_lit (s : ByteArray) (u : Nat) (w : World) (hs : s.size ≤ 9223372036854775806) (h : Lib.parseUintB 64 s.data.toList = .ok u) :
    Calls Tryd.prog 19 #[.string s, .int .i64 10, .int .i64 64] w fun e w' => e = .returned (.tuple #[.int .u64 u, .nilIface]) ∧ Below w.heap.size w w' := by
  refine (Tryd.strconv_ParseUint_10_at64_ok s hs u h w).mono ?_
  rintro e w' ⟨rfl, rfl | rfl⟩
  · exact ⟨rfl, Below.refl _ _⟩
  · exact ⟨rfl, Lib.bytesWorld_below _ _ _⟩

theorem p1 (W : World) : Calls Tryd.prog 15 #[.string ⟨#[49, 50, 46, 53, 48]⟩, .string ⟨#[45]⟩] W fun e w' => e = .returned (.tuple #[.string ⟨#[49, 50, 46, 53, 48]⟩, .bool false]) ∧ w' = W := prefix_lit ⟨#[49, 50, 46, 53, 48]⟩ ⟨#[49, 50, 46, 53, 48]⟩ false W (by decide +kernel) (by decide +kernel)
theorem p2 (m : Int) (W : World) (hm : W.cell? ⟨1, 0, none⟩ = some (.int .i64 m)) : Calls Tryd.prog 16 #[.string ⟨#[49, 50, 46, 53, 48]⟩, .string ⟨#[46]⟩] W fun e w' => e = .returned (.tuple #[.string ⟨#[49, 50]⟩, .string ⟨#[53, 48]⟩, .bool true]) ∧ Below W.heap.size W w' := cut_lit ⟨#[49, 50, 46, 53, 48]⟩ ⟨#[49, 50]⟩ ⟨#[53, 48]⟩ true m W (by decide) hm (by decide +kernel)
theorem d1 (W : World) : Calls Tryd.prog 17 #[.string ⟨#[49, 50]⟩] W fun e w' => e = .returned (.bool true) ∧ Below W.heap.size W w' := by
  have h := digits_any ⟨#[49, 50]⟩ (by decide) W
  rw [show digB ⟨#[49, 50]⟩ = true by decide +kernel] at h
  exact h
theorem d2 (W : World) : Calls Tryd.prog 17 #[.string ⟨#[53, 48]⟩] W fun e w' => e = .returned (.bool true) ∧ Below W.heap.size W w' := by
  have h := digits_any ⟨#[53, 48]⟩ (by decide) W
  rw [show digB ⟨#[53, 48]⟩ = true by decide +kernel] at h
  exact h
theorem p3 (W : World) : Calls Tryd.prog 18 #[.string ⟨#[53, 48]⟩, .string ⟨#[48]⟩] W fun e w' => e = .returned (.string ⟨#[53]⟩) ∧ w' = W := right_lit ⟨#[53, 48]⟩ ⟨#[53]⟩ W (by decide) (by decide +kernel)
theorem p4 (W : World) : Calls Tryd.prog 19 #[.string ⟨#[49, 50, 53]⟩, .int .i64 10, .int .i64 64] W fun e w' => e = .returned (.tuple #[.int .u64 125, .nilIface]) ∧ Below W.heap.size W w' := uint_lit ⟨#[49, 50, 53]⟩ 125 W (by decide) (by decide +kernel)

set_option maxHeartbeats 1000000 in
set_option maxRecDepth 100000 in
theorem parse_awake (m : Int) (w : World) (hm : w.cell? ⟨1, 0, none⟩ = some (.int .i64 m)) :
    Calls Tryd.prog 6 #[.string ⟨#[49, 50, 46, 53, 48]⟩] w fun e w' => e = .returned (.tuple #[.agg #[.int .i64 125, .int .i64 1], .int .i64 0]) ∧ Below w.heap.size w w' := by
  have hb1 := Blk.new w 23 #[.int .i64 0, .int .i64 0]
  have HM := Lib.hid hm
  have hm2 : (w.alloc (.cells #[.int .i64 0, .int .i64 0] 23)).cell? ⟨1, 0, none⟩ = some (.int .i64 m) := by exact (World.cell?_alloc_some w _ _ (by rw [hm]; rfl)).trans hm
  clear hm
  replace hm2 := Lib.hid hm2
  go_enter Tryd.func6, Tryd.ntmps6
  go_wp2_with fail
  refine (p1 _).mono ?_
  rintro e w1 ⟨rfl, rfl⟩
  go_wp2_with fail
  refine (p2 m _ hm2.out).mono ?_
  rintro e w2 ⟨rfl, hb2⟩
  replace hb1 := hb1.step hb2
  go_wp2_with fail
  refine (d1 _).mono ?_
  rintro e w3 ⟨rfl, hb3⟩
  replace hb1 := hb1.step hb3
  go_wp2_with fail
  refine (d2 _).mono ?_
  rintro e w4 ⟨rfl, hb4⟩
  replace hb1 := hb1.step hb4
  go_wp2_with fail
  refine (p3 _).mono ?_
  rintro e w5 ⟨rfl, rfl⟩
  go_wp2_with fail
  refine (p4 _).mono ?_
  rintro e w6 ⟨rfl, hb6⟩
  replace hb1 := hb1.step hb6
  go_wp2_with fail
  refine (dec_any 125 1 false (by omega) (by omega) (by omega) (by omega) _).mono ?_
  rintro e w7 ⟨rfl, hb7⟩
  replace hb1 := hb1.step hb7
  go_wp2_with (refine wpList_store_blk hb1 rfl _ _ _ (by rfl) _ (by rfl) (by rfl) (by repeat first | with_reducible first | exact hb1 | apply Blk.alloc | apply Blk.drew | refine Blk.far ?_ (by simp <;> omega) _ | refine Blk.turn ?_ ‹_› (by omega)) (by rfl) (by kernel_rfl) (by simp [Value.oneCell']) ?_; intro wt hb1n ht)
  refine ret_blk2 rfl hb1n rfl Tryd.underlying23 rfl (by kernel_rfl) rfl ?_
  exact ⟨by rw [show (decS 1 125 false).n = 125 by decide +kernel, show (decS 1 125 false).s = 1 by decide +kernel, show (decS 1 125 false).e = 0 by decide +kernel]; rfl, by (repeat' first | (with_reducible first | exact .refl _ _ | assumption | apply balloc | apply Below.drew | apply bset | refine bstep ?_ ‹_› | refine bturn ?_ ‹_› ?_) | go_size)⟩
end Go.Proofs.YtlmcjnekkhdmiaaDoor
