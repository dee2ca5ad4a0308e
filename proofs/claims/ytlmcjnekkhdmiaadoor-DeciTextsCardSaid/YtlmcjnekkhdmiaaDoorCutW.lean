/- strings.Cut at a text of one letter, the point, whatever the text's length is. -/
import Derived.Test.YtlmcjnekkhdmiaaDoorKit
import Derived.Test.YtlmcjnekkhdmiaaDoorShelf
import Derived.Shelf.Strings.Cut
set_option linter.unusedVariables false
set_option linter.unusedSimpArgs false
namespace Go.Proofs.YtlmcjnekkhdmiaaDoor
open Go.RowKit Go.Shelf

set_option maxHeartbeats 2000000 in
set_option maxRecDepth 100000 in
theorem cutl_dot (s : ByteArray) (hs : s.size ≤ 9223372036854775807) (w : World) :
    Calls Tryd.prog 33 #[.string s, .string ⟨#[46]⟩] w fun e w' => e = .returned (.tuple #[.string ⟨(Lib.cut s.data.toList [46]).1.toArray⟩, .string ⟨(Lib.cut s.data.toList [46]).2.1.toArray⟩, .bool (Lib.cut s.data.toList [46]).2.2]) ∧ ∃ n, w' = w.drewN n := by
  have ho : Lib.index s.data.toList [46] = Lib.indexByte s.data.toList 46 := Lib.one s ⟨#[46]⟩ rfl
  rcases Lib.indexB_cases s ⟨#[46]⟩ with hix | ⟨i, hix, hroom⟩
  · obtain ⟨e1, e2, e3⟩ := Lib.cutB_miss s ⟨#[46]⟩ hix
    have e1' := Lib.hid e1
    have e2' := Lib.hid e2
    have e3' := Lib.hid e3
    have h1 : Lib.indexByte s.data.toList 46 = -1 := ho.symm.trans hix
    have H1 := Lib.hid h1
    clear e1 e2 e3 ho hix h1
    go_enter Tryd.func33, Tryd.ntmps33
    go_wp2_with fail
    refine (Tryd.stringslite_Index_one s 46 _).mono ?_
    rintro e w1 ⟨rfl, rfl⟩
    rw [H1.out]
    go_wp2_with fail
    go_returns
    exact ⟨by rw [show ([46] : List UInt8) = (⟨#[46]⟩ : ByteArray).data.toList from rfl, e1'.out, e2'.out, e3'.out]; rfl, 0, rfl⟩
  · obtain ⟨e1, e2, e3⟩ := Lib.cutB_hit s ⟨#[46]⟩ i hix
    have e1' := Lib.hid e1
    have e2' := Lib.hid e2
    have e3' := Lib.hid e3
    have h1 : Lib.indexByte s.data.toList 46 = (i : Int) := ho.symm.trans hix
    have H1 := Lib.hid h1
    have hz : (⟨#[46]⟩ : ByteArray).size = 1 := rfl
    have c1 : (0 : Int) ≤ ↑i := by omega
    have c2 : (↑i : Int) ≤ ↑s.size := by omega
    have c3 : (0 : Int) ≤ ↑i + 1 := by omega
    have c4 : (↑i + 1 : Int) ≤ ↑s.size := by omega
    have c5 : IntKind.i64.wrap ((i : Int) + 1) = (i : Int) + 1 := IntWalk.i64_in _ (by omega)
    clear e1 e2 e3 ho hix h1 hz hroom
    go_enter Tryd.func33, Tryd.ntmps33
    go_wp2_with fail
    refine (Tryd.stringslite_Index_one s 46 _).mono ?_
    rintro e w1 ⟨rfl, rfl⟩
    rw [H1.out]
    go_wp2_with fail
    have mixed : Tryd.prog.follows Departure.mixedOrders = true := by kernel_rfl
    go_region_o
    go_wp2
    go_returns
    exact ⟨by rw [show ([46] : List UInt8) = (⟨#[46]⟩ : ByteArray).data.toList from rfl, e1'.out, e2'.out, e3'.out]; rfl, 1, rfl⟩
theorem cut_dot (s a b : ByteArray) (d : Bool) (w : World) (hs : s.size ≤ 9223372036854775807) (h : Lib.cut s.data.toList [46] = (a.data.toList, b.data.toList, d)) :
    Calls Tryd.prog 16 #[.string s, .string ⟨#[46]⟩] w fun e w' => e = .returned (.tuple #[.string a, .string b, .bool d]) ∧ Below w.heap.size w w' := by
  have K := Lib.hid fun W => cutl_dot s hs W
  rw [h] at K
  clear h
  go_enter Tryd.func16, Tryd.ntmps16
  go_wp2_with fail
  refine (K.out _).mono ?_
  rintro e w1 ⟨rfl, n, rfl⟩
  go_wp2_with fail
  go_returns
  exact ⟨rfl, bdrewN (Below.refl _ _) n⟩
end Go.Proofs.YtlmcjnekkhdmiaaDoor
