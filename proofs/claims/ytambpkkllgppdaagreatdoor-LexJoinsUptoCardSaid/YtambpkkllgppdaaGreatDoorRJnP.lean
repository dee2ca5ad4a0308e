/- The walks of the reference's Quoted and written. The walk of the reference's written at any token. The walk of the reference's Join at any tokens. The reference writes a token as the program does; the walk of LexJoins. Both sides write the same; the walk of LexJoins. -/
import Derived.Test.YtambpkkllgppdaaGreatDoorRLxQ
import Derived.Test.YtambpkkllgppdaaGreatDoorOncP
import Derived.Deep.QuietTactic
import Derived.BigQuiet
import Derived.Test.YtambpkkllgppdaaGreatDoorLBackW
namespace Go.Proofs.YtambpkkllgppdaaGreatDoor
open Go.RowKit

set_option maxHeartbeats 4000000 in
set_option maxRecDepth 100000 in
theorem rquote_any (s : ByteArray) (hs : s.size ≤ 1900000) (w : World) :
    Calls Tryz.prog 50 #[.string s] w fun e w' => e = .returned (.string (bs (34 :: (escB s.data.toList ++ [34])))) ∧ w = w' := by
  have hsl : s.data.toList.length = s.size := by simp
  go_enter Tryz.func50, Tryz.ntmps50
  go_wp2_with fail
  go_loop [4, 3] (fun i q => ∃ (k : Nat) (qq : ByteArray), k ≤ s.size ∧ i = .int .i64 (k : Int) ∧ q = .string qq ∧ qq.size ≤ 1 + 2 * k ∧ Hid (qq.data.toList = 34 :: escB (s.data.toList.take k))) (fun i _ => s.size - (intOf i).toNat)
  case atStart => exact ⟨0, ⟨#[34]⟩, by omega, rfl, rfl, by decide, Lib.hid rfl⟩
  case round =>
    obtain ⟨k, qq, hk, rfl, rfl, hqs, HQ⟩ := hrel
    by_cases hlt : k < s.size
    · have hlt2 : k < s.data.toList.length := by rw [hsl]; exact hlt
      have hget : s.data.toList[k]'hlt2 = s[k]'hlt := by simp [ByteArray.getElem_eq_getElem_data]
      have hst := escB_take s.data.toList k hlt2
      rw [hget] at hst
      obtain ⟨k1, hk1⟩ : ∃ k1, k + 1 = k1 := ⟨_, rfl⟩
      have w4 : (k : Int) + 1 = (k1 : Int) := by omega
      have w5 : IntKind.i64.wrap (k1 : Int) = (k1 : Int) := IntWalk.i64_in _ (by omega)
      have k1i : (k1 : Int) ≤ (s.size : Int) := by omega
      rw [hk1] at hst
      obtain ⟨e, he⟩ : ∃ e, s.extract k k1 = e := ⟨_, rfl⟩
      have hel : e.data.toList = [s[k]'hlt] := by rw [← he, ext_one s k k1 hlt hk1]
      have hes : e.size = 1 := by rw [← size_list, hel]; rfl
      by_cases h34 : s[k]'hlt = 34
      · have dummy := True.intro
        have y1 : (((s[k]'hlt).toNat : Nat) : Int) = 34 := by rw [h34]; rfl
        rw [h34, show escC 34 = [92, 34] from rfl] at hst
        obtain ⟨q1, hq1⟩ : ∃ q1, qq ++ ⟨#[92]⟩ = q1 := ⟨_, rfl⟩
        have hq1l : q1.data.toList = (34 :: escB (s.data.toList.take k)) ++ [92] := by rw [← hq1]; exact app_one qq ⟨#[92]⟩ _ 92 HQ.out rfl
        have hq1s : q1.size = qq.size + 1 := by rw [← hq1, ByteArray.size_append]; rfl
        obtain ⟨q2, hq2⟩ : ∃ q2, q1 ++ e = q2 := ⟨_, rfl⟩
        have hq2l : q2.data.toList = 34 :: escB (s.data.toList.take k1) := by
          rw [← hq2, app_one q1 e _ 34 hq1l (by rw [hel, h34]), hst]
          simp
        have hq2s : q2.size = qq.size + 2 := by rw [← hq2, ByteArray.size_append, hes, hq1s]
        have H2 := Lib.hid hq2l
        have z1 : qq.size + 1 ≤ 9223372036854775807 := by omega
        have z2 : q1.size + e.size ≤ 9223372036854775807 := by omega
        have hk2p : Hid (k1 ≤ s.size ∧ k < k1 ∧ q2.size ≤ 1 + 2 * k1) := Lib.hid ⟨by omega, by omega, by omega⟩
        clear hst hget hel hes hq1l hq2l hq1s hq2s h34 hk1
        go_wp2_with fail
        go_round
        case rel => exact ⟨k1, q2, hk2p.out.1, rfl, rfl, hk2p.out.2.2, H2⟩
        case measure => have := hk2p.out; simp [intOf]; omega
      · by_cases h92 : s[k]'hlt = 92
        · have dummy := True.intro
          have y1 : (((s[k]'hlt).toNat : Nat) : Int) = 92 := by rw [h92]; rfl
          rw [h92, show escC 92 = [92, 92] from rfl] at hst
          obtain ⟨q1, hq1⟩ : ∃ q1, qq ++ ⟨#[92]⟩ = q1 := ⟨_, rfl⟩
          have hq1l : q1.data.toList = (34 :: escB (s.data.toList.take k)) ++ [92] := by rw [← hq1]; exact app_one qq ⟨#[92]⟩ _ 92 HQ.out rfl
          have hq1s : q1.size = qq.size + 1 := by rw [← hq1, ByteArray.size_append]; rfl
          obtain ⟨q2, hq2⟩ : ∃ q2, q1 ++ e = q2 := ⟨_, rfl⟩
          have hq2l : q2.data.toList = 34 :: escB (s.data.toList.take k1) := by
            rw [← hq2, app_one q1 e _ 92 hq1l (by rw [hel, h92]), hst]
            simp
          have hq2s : q2.size = qq.size + 2 := by rw [← hq2, ByteArray.size_append, hes, hq1s]
          have H2 := Lib.hid hq2l
          have z1 : qq.size + 1 ≤ 9223372036854775807 := by omega
          have z2 : q1.size + e.size ≤ 9223372036854775807 := by omega
          have hk2p : Hid (k1 ≤ s.size ∧ k < k1 ∧ q2.size ≤ 1 + 2 * k1) := Lib.hid ⟨by omega, by omega, by omega⟩
          clear hst hget hel hes hq1l hq2l hq1s hq2s h92 hk1
          go_wp2_with fail
          go_round
          case rel => exact ⟨k1, q2, hk2p.out.1, rfl, rfl, hk2p.out.2.2, H2⟩
          case measure => have := hk2p.out; simp [intOf]; omega
        · rw [escC_same h34 h92] at hst
          obtain ⟨cv, hcv⟩ : ∃ cv : Nat, (s[k]'hlt).toNat = cv := ⟨_, rfl⟩
          have y1 : (((s[k]'hlt).toNat : Nat) : Int) = (cv : Int) := by rw [hcv]
          have n34 : ¬ (cv : Int) = 34 := fun e => h34 (UInt8.toNat_inj.1 (by rw [show (34 : UInt8).toNat = 34 from rfl]; omega))
          have n92 : ¬ (cv : Int) = 92 := fun e => h92 (UInt8.toNat_inj.1 (by rw [show (92 : UInt8).toNat = 92 from rfl]; omega))
          have m34 : ¬ cv = 34 := by omega
          have m92 : ¬ cv = 92 := by omega
          have b34 : ((cv : Int) == 34) = false := by simpa using n34
          have b92 : ((cv : Int) == 92) = false := by simpa using n92
          obtain ⟨q2, hq2⟩ : ∃ q2, qq ++ e = q2 := ⟨_, rfl⟩
          have hq2l : q2.data.toList = 34 :: escB (s.data.toList.take k1) := by
            rw [← hq2, app_one qq e _ _ HQ.out hel, hst]
            simp
          have hq2s : q2.size = qq.size + 1 := by rw [← hq2, ByteArray.size_append, hes]
          have H2 := Lib.hid hq2l
          have z1 : qq.size + e.size ≤ 9223372036854775807 := by omega
          have hk2p : Hid (k1 ≤ s.size ∧ k < k1 ∧ q2.size ≤ 1 + 2 * k1) := Lib.hid ⟨by omega, by omega, by omega⟩
          clear hst hget hel hes hq2l hq2s h34 h92 hk1 hcv
          go_wp2_with fail
          go_round
          case rel => exact ⟨k1, q2, hk2p.out.1, rfl, rfl, hk2p.out.2.2, H2⟩
          case measure => have := hk2p.out; simp [intOf]; omega
    · obtain rfl : k = s.size := by omega
      have htk : s.data.toList.take s.size = s.data.toList := List.take_of_length_le (by rw [hsl]; exact Nat.le_refl _)
      have hq := HQ.out
      rw [htk] at hq
      obtain ⟨q2, hq2⟩ : ∃ q2, qq ++ ⟨#[34]⟩ = q2 := ⟨_, rfl⟩
      have HE : Hid (q2 = bs (34 :: (escB s.data.toList ++ [34]))) := Lib.hid (by
        apply bs_of
        rw [← hq2, app_one qq ⟨#[34]⟩ _ 34 hq rfl]
        simp)
      have z1 : qq.size + 1 ≤ 9223372036854775807 := by omega
      clear hq htk
      go_wp2_with fail
      go_returns
      exact ⟨by rw [← HE.out]; rfl, rfl⟩
end Go.Proofs.YtambpkkllgppdaaGreatDoor

namespace Go.Proofs.YtambpkkllgppdaaGreatDoor
open Go.RowKit

set_option maxHeartbeats 4000000 in
set_option maxRecDepth 100000 in
theorem wrt1eA (a : Int) (t : ByteArray) (m : Int) (o : ByteArray) (te : Int) (w : World) (hte : ¬ te = 0) (HT : Hid (∀ W, Calls Tryz.prog 49 #[.agg #[.int .i64 0, .int .i64 0]] W fun e w' => e = .returned (.tuple #[.string o, .int .i64 te]) ∧ Below W.heap.size W w')) :
    Calls Tryz.prog 28 #[.agg #[.int .i64 1, .int .i64 a, .string t, .int .i64 0, .int .i64 0, .int .i64 m]] w fun e w' => e = .returned (.tuple #[.string o, .bool false]) ∧ Below w.heap.size w w' := by
  have hb0 := Blk.new w 38 #[.int .i64 1, .int .i64 a, .string t, .int .i64 0, .int .i64 0, .int .i64 m]
  go_enter Tryz.func28, Tryz.ntmps28
  have htb : (te == 0) = false := by simpa using hte
  go_wp2_with fail
  refine (HT.out _).mono ?_
  rintro _ w7 ⟨rfl, hw7⟩
  replace hb0 := hb0.step hw7
  have d0 := hb0.cell 0
  have d1 := hb0.cell 1
  have d2 := hb0.cell 2
  have d3 := hb0.cell 3
  have d4 := hb0.cell 4
  have d5 := hb0.cell 5
  simp at d0 d1 d2 d3 d4 d5
  go_wp2_with fail
  go_quiet (fail)
  go_wp2_with fail
  go_returns
  exact ⟨by first | rfl | simp, (by first | exact bdrewN (by (repeat' (first | (with_reducible exact Below.refl _ _) | (with_reducible assumption) | (with_reducible refine balloc ?_ _) | (with_reducible refine Below.drew ?_) | (with_reducible refine bset ?_ ?_ _) | (with_reducible refine bstep ?_ (by with_reducible assumption)) | (with_reducible refine bturn ?_ (by with_reducible assumption) ?_) | go_size))) _ | (refine bdrewN ?_; (repeat' (first | (with_reducible exact Below.refl _ _) | (with_reducible assumption) | (with_reducible refine balloc ?_ _) | (with_reducible refine Below.drew ?_) | (with_reducible refine bset ?_ ?_ _) | (with_reducible refine bstep ?_ (by with_reducible assumption)) | (with_reducible refine bturn ?_ (by with_reducible assumption) ?_) | go_size))) | ((repeat' (first | (with_reducible exact Below.refl _ _) | (with_reducible assumption) | (with_reducible refine balloc ?_ _) | (with_reducible refine Below.drew ?_) | (with_reducible refine bset ?_ ?_ _) | (with_reducible refine bstep ?_ (by with_reducible assumption)) | (with_reducible refine bturn ?_ (by with_reducible assumption) ?_) | go_size))))⟩

set_option maxHeartbeats 4000000 in
set_option maxRecDepth 100000 in
theorem wrt1tA (a : Int) (t : ByteArray) (m : Int) (o : ByteArray) (w : World) (ht : t.toList.isEmpty = false) (HT : Hid (∀ W, Calls Tryz.prog 49 #[.agg #[.int .i64 0, .int .i64 0]] W fun e w' => e = .returned (.tuple #[.string o, .int .i64 0]) ∧ Below W.heap.size W w')) :
    Calls Tryz.prog 28 #[.agg #[.int .i64 1, .int .i64 a, .string t, .int .i64 0, .int .i64 0, .int .i64 m]] w fun e w' => e = .returned (.tuple #[.string o, .bool false]) ∧ Below w.heap.size w w' := by
  have hb0 := Blk.new w 38 #[.int .i64 1, .int .i64 a, .string t, .int .i64 0, .int .i64 0, .int .i64 m]
  go_enter Tryz.func28, Tryz.ntmps28
  go_wp2_with fail
  refine (HT.out _).mono ?_
  rintro _ w7 ⟨rfl, hw7⟩
  replace hb0 := hb0.step hw7
  have d0 := hb0.cell 0
  have d1 := hb0.cell 1
  have d2 := hb0.cell 2
  have d3 := hb0.cell 3
  have d4 := hb0.cell 4
  have d5 := hb0.cell 5
  simp at d0 d1 d2 d3 d4 d5
  go_wp2_with fail
  go_quiet (fail)
  go_wp2_with fail
  go_returns
  exact ⟨by first | rfl | simp, (by first | exact bdrewN (by (repeat' (first | (with_reducible exact Below.refl _ _) | (with_reducible assumption) | (with_reducible refine balloc ?_ _) | (with_reducible refine Below.drew ?_) | (with_reducible refine bset ?_ ?_ _) | (with_reducible refine bstep ?_ (by with_reducible assumption)) | (with_reducible refine bturn ?_ (by with_reducible assumption) ?_) | go_size))) _ | (refine bdrewN ?_; (repeat' (first | (with_reducible exact Below.refl _ _) | (with_reducible assumption) | (with_reducible refine balloc ?_ _) | (with_reducible refine Below.drew ?_) | (with_reducible refine bset ?_ ?_ _) | (with_reducible refine bstep ?_ (by with_reducible assumption)) | (with_reducible refine bturn ?_ (by with_reducible assumption) ?_) | go_size))) | ((repeat' (first | (with_reducible exact Below.refl _ _) | (with_reducible assumption) | (with_reducible refine balloc ?_ _) | (with_reducible refine Below.drew ?_) | (with_reducible refine bset ?_ ?_ _) | (with_reducible refine bstep ?_ (by with_reducible assumption)) | (with_reducible refine bturn ?_ (by with_reducible assumption) ?_) | go_size))))⟩

set_option maxHeartbeats 4000000 in
set_option maxRecDepth 100000 in
theorem wrt1mA (a : Int) (m : Int) (o : ByteArray) (w : World) (hm : ¬ m = 0) (HT : Hid (∀ W, Calls Tryz.prog 49 #[.agg #[.int .i64 0, .int .i64 0]] W fun e w' => e = .returned (.tuple #[.string o, .int .i64 0]) ∧ Below W.heap.size W w')) :
    Calls Tryz.prog 28 #[.agg #[.int .i64 1, .int .i64 a, .string ⟨#[]⟩, .int .i64 0, .int .i64 0, .int .i64 m]] w fun e w' => e = .returned (.tuple #[.string o, .bool false]) ∧ Below w.heap.size w w' := by
  have hb0 := Blk.new w 38 #[.int .i64 1, .int .i64 a, .string ⟨#[]⟩, .int .i64 0, .int .i64 0, .int .i64 m]
  go_enter Tryz.func28, Tryz.ntmps28
  have hmb : (m == 0) = false := by simpa using hm
  go_wp2_with fail
  refine (HT.out _).mono ?_
  rintro _ w7 ⟨rfl, hw7⟩
  replace hb0 := hb0.step hw7
  have d0 := hb0.cell 0
  have d1 := hb0.cell 1
  have d2 := hb0.cell 2
  have d3 := hb0.cell 3
  have d4 := hb0.cell 4
  have d5 := hb0.cell 5
  simp at d0 d1 d2 d3 d4 d5
  go_wp2_with fail
  go_quiet (fail)
  go_wp2_with fail
  go_returns
  exact ⟨by first | rfl | simp, (by first | exact bdrewN (by (repeat' (first | (with_reducible exact Below.refl _ _) | (with_reducible assumption) | (with_reducible refine balloc ?_ _) | (with_reducible refine Below.drew ?_) | (with_reducible refine bset ?_ ?_ _) | (with_reducible refine bstep ?_ (by with_reducible assumption)) | (with_reducible refine bturn ?_ (by with_reducible assumption) ?_) | go_size))) _ | (refine bdrewN ?_; (repeat' (first | (with_reducible exact Below.refl _ _) | (with_reducible assumption) | (with_reducible refine balloc ?_ _) | (with_reducible refine Below.drew ?_) | (with_reducible refine bset ?_ ?_ _) | (with_reducible refine bstep ?_ (by with_reducible assumption)) | (with_reducible refine bturn ?_ (by with_reducible assumption) ?_) | go_size))) | ((repeat' (first | (with_reducible exact Below.refl _ _) | (with_reducible assumption) | (with_reducible refine balloc ?_ _) | (with_reducible refine Below.drew ?_) | (with_reducible refine bset ?_ ?_ _) | (with_reducible refine bstep ?_ (by with_reducible assumption)) | (with_reducible refine bturn ?_ (by with_reducible assumption) ?_) | go_size))))⟩

set_option maxHeartbeats 4000000 in
set_option maxRecDepth 100000 in
theorem wrt1oA (a : Int) (o : ByteArray) (w : World) (HT : Hid (∀ W, Calls Tryz.prog 49 #[.agg #[.int .i64 0, .int .i64 0]] W fun e w' => e = .returned (.tuple #[.string o, .int .i64 0]) ∧ Below W.heap.size W w')) :
    Calls Tryz.prog 28 #[.agg #[.int .i64 1, .int .i64 a, .string ⟨#[]⟩, .int .i64 0, .int .i64 0, .int .i64 0]] w fun e w' => e = .returned (.tuple #[.string o, .bool true]) ∧ Below w.heap.size w w' := by
  have hb0 := Blk.new w 38 #[.int .i64 1, .int .i64 a, .string ⟨#[]⟩, .int .i64 0, .int .i64 0, .int .i64 0]
  go_enter Tryz.func28, Tryz.ntmps28
  go_wp2_with fail
  refine (HT.out _).mono ?_
  rintro _ w7 ⟨rfl, hw7⟩
  replace hb0 := hb0.step hw7
  have d0 := hb0.cell 0
  have d1 := hb0.cell 1
  have d2 := hb0.cell 2
  have d3 := hb0.cell 3
  have d4 := hb0.cell 4
  have d5 := hb0.cell 5
  simp at d0 d1 d2 d3 d4 d5
  go_wp2_with fail
  go_quiet (fail)
  go_wp2_with fail
  go_returns
  exact ⟨by first | rfl | simp, (by first | exact bdrewN (by (repeat' (first | (with_reducible exact Below.refl _ _) | (with_reducible assumption) | (with_reducible refine balloc ?_ _) | (with_reducible refine Below.drew ?_) | (with_reducible refine bset ?_ ?_ _) | (with_reducible refine bstep ?_ (by with_reducible assumption)) | (with_reducible refine bturn ?_ (by with_reducible assumption) ?_) | go_size))) _ | (refine bdrewN ?_; (repeat' (first | (with_reducible exact Below.refl _ _) | (with_reducible assumption) | (with_reducible refine balloc ?_ _) | (with_reducible refine Below.drew ?_) | (with_reducible refine bset ?_ ?_ _) | (with_reducible refine bstep ?_ (by with_reducible assumption)) | (with_reducible refine bturn ?_ (by with_reducible assumption) ?_) | go_size))) | ((repeat' (first | (with_reducible exact Below.refl _ _) | (with_reducible assumption) | (with_reducible refine balloc ?_ _) | (with_reducible refine Below.drew ?_) | (with_reducible refine bset ?_ ?_ _) | (with_reducible refine bstep ?_ (by with_reducible assumption)) | (with_reducible refine bturn ?_ (by with_reducible assumption) ?_) | go_size))))⟩

set_option maxHeartbeats 4000000 in
set_option maxRecDepth 100000 in
theorem wrt1eB (a : Int) (t : ByteArray) (m : Int) (n s : Int) (hn0 : ¬ n = 0) (o : ByteArray) (te : Int) (w : World) (hte : ¬ te = 0) (HT : Hid (∀ W, Calls Tryz.prog 49 #[.agg #[.int .i64 n, .int .i64 s]] W fun e w' => e = .returned (.tuple #[.string o, .int .i64 te]) ∧ Below W.heap.size W w')) :
    Calls Tryz.prog 28 #[.agg #[.int .i64 1, .int .i64 a, .string t, .int .i64 n, .int .i64 s, .int .i64 m]] w fun e w' => e = .returned (.tuple #[.string o, .bool false]) ∧ Below w.heap.size w w' := by
  have hb0 := Blk.new w 38 #[.int .i64 1, .int .i64 a, .string t, .int .i64 n, .int .i64 s, .int .i64 m]
  have hnb : (n == 0) = false := by simpa using hn0
  go_enter Tryz.func28, Tryz.ntmps28
  have htb : (te == 0) = false := by simpa using hte
  go_wp2_with fail
  refine (HT.out _).mono ?_
  rintro _ w7 ⟨rfl, hw7⟩
  replace hb0 := hb0.step hw7
  have d0 := hb0.cell 0
  have d1 := hb0.cell 1
  have d2 := hb0.cell 2
  have d3 := hb0.cell 3
  have d4 := hb0.cell 4
  have d5 := hb0.cell 5
  simp at d0 d1 d2 d3 d4 d5
  go_wp2_with fail
  go_quiet (fail)
  go_wp2_with fail
  go_returns
  exact ⟨by first | rfl | simp, (by first | exact bdrewN (by (repeat' (first | (with_reducible exact Below.refl _ _) | (with_reducible assumption) | (with_reducible refine balloc ?_ _) | (with_reducible refine Below.drew ?_) | (with_reducible refine bset ?_ ?_ _) | (with_reducible refine bstep ?_ (by with_reducible assumption)) | (with_reducible refine bturn ?_ (by with_reducible assumption) ?_) | go_size))) _ | (refine bdrewN ?_; (repeat' (first | (with_reducible exact Below.refl _ _) | (with_reducible assumption) | (with_reducible refine balloc ?_ _) | (with_reducible refine Below.drew ?_) | (with_reducible refine bset ?_ ?_ _) | (with_reducible refine bstep ?_ (by with_reducible assumption)) | (with_reducible refine bturn ?_ (by with_reducible assumption) ?_) | go_size))) | ((repeat' (first | (with_reducible exact Below.refl _ _) | (with_reducible assumption) | (with_reducible refine balloc ?_ _) | (with_reducible refine Below.drew ?_) | (with_reducible refine bset ?_ ?_ _) | (with_reducible refine bstep ?_ (by with_reducible assumption)) | (with_reducible refine bturn ?_ (by with_reducible assumption) ?_) | go_size))))⟩

set_option maxHeartbeats 4000000 in
set_option maxRecDepth 100000 in
theorem wrt1nB (a : Int) (t : ByteArray) (m : Int) (n s : Int) (hn0 : ¬ n = 0) (o : ByteArray) (w : World) (hn : n < 0) (HT : Hid (∀ W, Calls Tryz.prog 49 #[.agg #[.int .i64 n, .int .i64 s]] W fun e w' => e = .returned (.tuple #[.string o, .int .i64 0]) ∧ Below W.heap.size W w')) :
    Calls Tryz.prog 28 #[.agg #[.int .i64 1, .int .i64 a, .string t, .int .i64 n, .int .i64 s, .int .i64 m]] w fun e w' => e = .returned (.tuple #[.string o, .bool false]) ∧ Below w.heap.size w w' := by
  have hb0 := Blk.new w 38 #[.int .i64 1, .int .i64 a, .string t, .int .i64 n, .int .i64 s, .int .i64 m]
  have hnb : (n == 0) = false := by simpa using hn0
  go_enter Tryz.func28, Tryz.ntmps28
  have hnn : ¬ 0 ≤ n := by omega
  have hnd : decide (0 ≤ n) = false := decide_eq_false hnn
  go_wp2_with fail
  refine (HT.out _).mono ?_
  rintro _ w7 ⟨rfl, hw7⟩
  replace hb0 := hb0.step hw7
  have d0 := hb0.cell 0
  have d1 := hb0.cell 1
  have d2 := hb0.cell 2
  have d3 := hb0.cell 3
  have d4 := hb0.cell 4
  have d5 := hb0.cell 5
  simp at d0 d1 d2 d3 d4 d5
  go_wp2_with fail
  go_quiet (fail)
  go_wp2_with fail
  go_returns
  exact ⟨by first | rfl | simp, (by first | exact bdrewN (by (repeat' (first | (with_reducible exact Below.refl _ _) | (with_reducible assumption) | (with_reducible refine balloc ?_ _) | (with_reducible refine Below.drew ?_) | (with_reducible refine bset ?_ ?_ _) | (with_reducible refine bstep ?_ (by with_reducible assumption)) | (with_reducible refine bturn ?_ (by with_reducible assumption) ?_) | go_size))) _ | (refine bdrewN ?_; (repeat' (first | (with_reducible exact Below.refl _ _) | (with_reducible assumption) | (with_reducible refine balloc ?_ _) | (with_reducible refine Below.drew ?_) | (with_reducible refine bset ?_ ?_ _) | (with_reducible refine bstep ?_ (by with_reducible assumption)) | (with_reducible refine bturn ?_ (by with_reducible assumption) ?_) | go_size))) | ((repeat' (first | (with_reducible exact Below.refl _ _) | (with_reducible assumption) | (with_reducible refine balloc ?_ _) | (with_reducible refine Below.drew ?_) | (with_reducible refine bset ?_ ?_ _) | (with_reducible refine bstep ?_ (by with_reducible assumption)) | (with_reducible refine bturn ?_ (by with_reducible assumption) ?_) | go_size))))⟩

set_option maxHeartbeats 4000000 in
set_option maxRecDepth 100000 in
theorem wrt1tB (a : Int) (t : ByteArray) (m : Int) (n s : Int) (hn0 : ¬ n = 0) (o : ByteArray) (w : World) (hn : 0 ≤ n) (ht : t.toList.isEmpty = false) (HT : Hid (∀ W, Calls Tryz.prog 49 #[.agg #[.int .i64 n, .int .i64 s]] W fun e w' => e = .returned (.tuple #[.string o, .int .i64 0]) ∧ Below W.heap.size W w')) :
    Calls Tryz.prog 28 #[.agg #[.int .i64 1, .int .i64 a, .string t, .int .i64 n, .int .i64 s, .int .i64 m]] w fun e w' => e = .returned (.tuple #[.string o, .bool false]) ∧ Below w.heap.size w w' := by
  have hb0 := Blk.new w 38 #[.int .i64 1, .int .i64 a, .string t, .int .i64 n, .int .i64 s, .int .i64 m]
  have hnb : (n == 0) = false := by simpa using hn0
  go_enter Tryz.func28, Tryz.ntmps28
  go_wp2_with fail
  refine (HT.out _).mono ?_
  rintro _ w7 ⟨rfl, hw7⟩
  replace hb0 := hb0.step hw7
  have d0 := hb0.cell 0
  have d1 := hb0.cell 1
  have d2 := hb0.cell 2
  have d3 := hb0.cell 3
  have d4 := hb0.cell 4
  have d5 := hb0.cell 5
  simp at d0 d1 d2 d3 d4 d5
  go_wp2_with fail
  go_quiet (fail)
  go_wp2_with fail
  go_returns
  exact ⟨by first | rfl | simp, (by first | exact bdrewN (by (repeat' (first | (with_reducible exact Below.refl _ _) | (with_reducible assumption) | (with_reducible refine balloc ?_ _) | (with_reducible refine Below.drew ?_) | (with_reducible refine bset ?_ ?_ _) | (with_reducible refine bstep ?_ (by with_reducible assumption)) | (with_reducible refine bturn ?_ (by with_reducible assumption) ?_) | go_size))) _ | (refine bdrewN ?_; (repeat' (first | (with_reducible exact Below.refl _ _) | (with_reducible assumption) | (with_reducible refine balloc ?_ _) | (with_reducible refine Below.drew ?_) | (with_reducible refine bset ?_ ?_ _) | (with_reducible refine bstep ?_ (by with_reducible assumption)) | (with_reducible refine bturn ?_ (by with_reducible assumption) ?_) | go_size))) | ((repeat' (first | (with_reducible exact Below.refl _ _) | (with_reducible assumption) | (with_reducible refine balloc ?_ _) | (with_reducible refine Below.drew ?_) | (with_reducible refine bset ?_ ?_ _) | (with_reducible refine bstep ?_ (by with_reducible assumption)) | (with_reducible refine bturn ?_ (by with_reducible assumption) ?_) | go_size))))⟩

set_option maxHeartbeats 4000000 in
set_option maxRecDepth 100000 in
theorem wrt1mB (a : Int) (m : Int) (n s : Int) (hn0 : ¬ n = 0) (o : ByteArray) (w : World) (hn : 0 ≤ n) (hm : ¬ m = 0) (HT : Hid (∀ W, Calls Tryz.prog 49 #[.agg #[.int .i64 n, .int .i64 s]] W fun e w' => e = .returned (.tuple #[.string o, .int .i64 0]) ∧ Below W.heap.size W w')) :
    Calls Tryz.prog 28 #[.agg #[.int .i64 1, .int .i64 a, .string ⟨#[]⟩, .int .i64 n, .int .i64 s, .int .i64 m]] w fun e w' => e = .returned (.tuple #[.string o, .bool false]) ∧ Below w.heap.size w w' := by
  have hb0 := Blk.new w 38 #[.int .i64 1, .int .i64 a, .string ⟨#[]⟩, .int .i64 n, .int .i64 s, .int .i64 m]
  have hnb : (n == 0) = false := by simpa using hn0
  go_enter Tryz.func28, Tryz.ntmps28
  have hmb : (m == 0) = false := by simpa using hm
  go_wp2_with fail
  refine (HT.out _).mono ?_
  rintro _ w7 ⟨rfl, hw7⟩
  replace hb0 := hb0.step hw7
  have d0 := hb0.cell 0
  have d1 := hb0.cell 1
  have d2 := hb0.cell 2
  have d3 := hb0.cell 3
  have d4 := hb0.cell 4
  have d5 := hb0.cell 5
  simp at d0 d1 d2 d3 d4 d5
  go_wp2_with fail
  go_quiet (fail)
  go_wp2_with fail
  go_returns
  exact ⟨by first | rfl | simp, (by first | exact bdrewN (by (repeat' (first | (with_reducible exact Below.refl _ _) | (with_reducible assumption) | (with_reducible refine balloc ?_ _) | (with_reducible refine Below.drew ?_) | (with_reducible refine bset ?_ ?_ _) | (with_reducible refine bstep ?_ (by with_reducible assumption)) | (with_reducible refine bturn ?_ (by with_reducible assumption) ?_) | go_size))) _ | (refine bdrewN ?_; (repeat' (first | (with_reducible exact Below.refl _ _) | (with_reducible assumption) | (with_reducible refine balloc ?_ _) | (with_reducible refine Below.drew ?_) | (with_reducible refine bset ?_ ?_ _) | (with_reducible refine bstep ?_ (by with_reducible assumption)) | (with_reducible refine bturn ?_ (by with_reducible assumption) ?_) | go_size))) | ((repeat' (first | (with_reducible exact Below.refl _ _) | (with_reducible assumption) | (with_reducible refine balloc ?_ _) | (with_reducible refine Below.drew ?_) | (with_reducible refine bset ?_ ?_ _) | (with_reducible refine bstep ?_ (by with_reducible assumption)) | (with_reducible refine bturn ?_ (by with_reducible assumption) ?_) | go_size))))⟩

set_option maxHeartbeats 4000000 in
set_option maxRecDepth 100000 in
theorem wrt1oB (a : Int) (n s : Int) (hn0 : ¬ n = 0) (o : ByteArray) (w : World) (hn : 0 ≤ n) (HT : Hid (∀ W, Calls Tryz.prog 49 #[.agg #[.int .i64 n, .int .i64 s]] W fun e w' => e = .returned (.tuple #[.string o, .int .i64 0]) ∧ Below W.heap.size W w')) :
    Calls Tryz.prog 28 #[.agg #[.int .i64 1, .int .i64 a, .string ⟨#[]⟩, .int .i64 n, .int .i64 s, .int .i64 0]] w fun e w' => e = .returned (.tuple #[.string o, .bool true]) ∧ Below w.heap.size w w' := by
  have hb0 := Blk.new w 38 #[.int .i64 1, .int .i64 a, .string ⟨#[]⟩, .int .i64 n, .int .i64 s, .int .i64 0]
  have hnb : (n == 0) = false := by simpa using hn0
  go_enter Tryz.func28, Tryz.ntmps28
  go_wp2_with fail
  refine (HT.out _).mono ?_
  rintro _ w7 ⟨rfl, hw7⟩
  replace hb0 := hb0.step hw7
  have d0 := hb0.cell 0
  have d1 := hb0.cell 1
  have d2 := hb0.cell 2
  have d3 := hb0.cell 3
  have d4 := hb0.cell 4
  have d5 := hb0.cell 5
  simp at d0 d1 d2 d3 d4 d5
  go_wp2_with fail
  go_quiet (fail)
  go_wp2_with fail
  go_returns
  exact ⟨by first | rfl | simp, (by first | exact bdrewN (by (repeat' (first | (with_reducible exact Below.refl _ _) | (with_reducible assumption) | (with_reducible refine balloc ?_ _) | (with_reducible refine Below.drew ?_) | (with_reducible refine bset ?_ ?_ _) | (with_reducible refine bstep ?_ (by with_reducible assumption)) | (with_reducible refine bturn ?_ (by with_reducible assumption) ?_) | go_size))) _ | (refine bdrewN ?_; (repeat' (first | (with_reducible exact Below.refl _ _) | (with_reducible assumption) | (with_reducible refine balloc ?_ _) | (with_reducible refine Below.drew ?_) | (with_reducible refine bset ?_ ?_ _) | (with_reducible refine bstep ?_ (by with_reducible assumption)) | (with_reducible refine bturn ?_ (by with_reducible assumption) ?_) | go_size))) | ((repeat' (first | (with_reducible exact Below.refl _ _) | (with_reducible assumption) | (with_reducible refine balloc ?_ _) | (with_reducible refine Below.drew ?_) | (with_reducible refine bset ?_ ?_ _) | (with_reducible refine bstep ?_ (by with_reducible assumption)) | (with_reducible refine bturn ?_ (by with_reducible assumption) ?_) | go_size))))⟩

set_option maxHeartbeats 4000000 in
set_option maxRecDepth 100000 in
theorem wrt1eC (a : Int) (t : ByteArray) (m : Int) (s : Int) (hs0 : ¬ s = 0) (o : ByteArray) (te : Int) (w : World) (hte : ¬ te = 0) (HT : Hid (∀ W, Calls Tryz.prog 49 #[.agg #[.int .i64 0, .int .i64 s]] W fun e w' => e = .returned (.tuple #[.string o, .int .i64 te]) ∧ Below W.heap.size W w')) :
    Calls Tryz.prog 28 #[.agg #[.int .i64 1, .int .i64 a, .string t, .int .i64 0, .int .i64 s, .int .i64 m]] w fun e w' => e = .returned (.tuple #[.string o, .bool false]) ∧ Below w.heap.size w w' := by
  have hb0 := Blk.new w 38 #[.int .i64 1, .int .i64 a, .string t, .int .i64 0, .int .i64 s, .int .i64 m]
  have hsb : (s == 0) = false := by simpa using hs0
  go_enter Tryz.func28, Tryz.ntmps28
  have htb : (te == 0) = false := by simpa using hte
  go_wp2_with fail
  refine (HT.out _).mono ?_
  rintro _ w7 ⟨rfl, hw7⟩
  replace hb0 := hb0.step hw7
  have d0 := hb0.cell 0
  have d1 := hb0.cell 1
  have d2 := hb0.cell 2
  have d3 := hb0.cell 3
  have d4 := hb0.cell 4
  have d5 := hb0.cell 5
  simp at d0 d1 d2 d3 d4 d5
  go_wp2_with fail
  go_quiet (fail)
  go_wp2_with fail
  go_returns
  exact ⟨by first | rfl | simp, (by first | exact bdrewN (by (repeat' (first | (with_reducible exact Below.refl _ _) | (with_reducible assumption) | (with_reducible refine balloc ?_ _) | (with_reducible refine Below.drew ?_) | (with_reducible refine bset ?_ ?_ _) | (with_reducible refine bstep ?_ (by with_reducible assumption)) | (with_reducible refine bturn ?_ (by with_reducible assumption) ?_) | go_size))) _ | (refine bdrewN ?_; (repeat' (first | (with_reducible exact Below.refl _ _) | (with_reducible assumption) | (with_reducible refine balloc ?_ _) | (with_reducible refine Below.drew ?_) | (with_reducible refine bset ?_ ?_ _) | (with_reducible refine bstep ?_ (by with_reducible assumption)) | (with_reducible refine bturn ?_ (by with_reducible assumption) ?_) | go_size))) | ((repeat' (first | (with_reducible exact Below.refl _ _) | (with_reducible assumption) | (with_reducible refine balloc ?_ _) | (with_reducible refine Below.drew ?_) | (with_reducible refine bset ?_ ?_ _) | (with_reducible refine bstep ?_ (by with_reducible assumption)) | (with_reducible refine bturn ?_ (by with_reducible assumption) ?_) | go_size))))⟩

set_option maxHeartbeats 4000000 in
set_option maxRecDepth 100000 in
theorem wrt1tC (a : Int) (t : ByteArray) (m : Int) (s : Int) (hs0 : ¬ s = 0) (o : ByteArray) (w : World) (ht : t.toList.isEmpty = false) (HT : Hid (∀ W, Calls Tryz.prog 49 #[.agg #[.int .i64 0, .int .i64 s]] W fun e w' => e = .returned (.tuple #[.string o, .int .i64 0]) ∧ Below W.heap.size W w')) :
    Calls Tryz.prog 28 #[.agg #[.int .i64 1, .int .i64 a, .string t, .int .i64 0, .int .i64 s, .int .i64 m]] w fun e w' => e = .returned (.tuple #[.string o, .bool false]) ∧ Below w.heap.size w w' := by
  have hb0 := Blk.new w 38 #[.int .i64 1, .int .i64 a, .string t, .int .i64 0, .int .i64 s, .int .i64 m]
  have hsb : (s == 0) = false := by simpa using hs0
  go_enter Tryz.func28, Tryz.ntmps28
  go_wp2_with fail
  refine (HT.out _).mono ?_
  rintro _ w7 ⟨rfl, hw7⟩
  replace hb0 := hb0.step hw7
  have d0 := hb0.cell 0
  have d1 := hb0.cell 1
  have d2 := hb0.cell 2
  have d3 := hb0.cell 3
  have d4 := hb0.cell 4
  have d5 := hb0.cell 5
  simp at d0 d1 d2 d3 d4 d5
  go_wp2_with fail
  go_quiet (fail)
  go_wp2_with fail
  go_returns
  exact ⟨by first | rfl | simp, (by first | exact bdrewN (by (repeat' (first | (with_reducible exact Below.refl _ _) | (with_reducible assumption) | (with_reducible refine balloc ?_ _) | (with_reducible refine Below.drew ?_) | (with_reducible refine bset ?_ ?_ _) | (with_reducible refine bstep ?_ (by with_reducible assumption)) | (with_reducible refine bturn ?_ (by with_reducible assumption) ?_) | go_size))) _ | (refine bdrewN ?_; (repeat' (first | (with_reducible exact Below.refl _ _) | (with_reducible assumption) | (with_reducible refine balloc ?_ _) | (with_reducible refine Below.drew ?_) | (with_reducible refine bset ?_ ?_ _) | (with_reducible refine bstep ?_ (by with_reducible assumption)) | (with_reducible refine bturn ?_ (by with_reducible assumption) ?_) | go_size))) | ((repeat' (first | (with_reducible exact Below.refl _ _) | (with_reducible assumption) | (with_reducible refine balloc ?_ _) | (with_reducible refine Below.drew ?_) | (with_reducible refine bset ?_ ?_ _) | (with_reducible refine bstep ?_ (by with_reducible assumption)) | (with_reducible refine bturn ?_ (by with_reducible assumption) ?_) | go_size))))⟩

set_option maxHeartbeats 4000000 in
set_option maxRecDepth 100000 in
theorem wrt1mC (a : Int) (m : Int) (s : Int) (hs0 : ¬ s = 0) (o : ByteArray) (w : World) (hm : ¬ m = 0) (HT : Hid (∀ W, Calls Tryz.prog 49 #[.agg #[.int .i64 0, .int .i64 s]] W fun e w' => e = .returned (.tuple #[.string o, .int .i64 0]) ∧ Below W.heap.size W w')) :
    Calls Tryz.prog 28 #[.agg #[.int .i64 1, .int .i64 a, .string ⟨#[]⟩, .int .i64 0, .int .i64 s, .int .i64 m]] w fun e w' => e = .returned (.tuple #[.string o, .bool false]) ∧ Below w.heap.size w w' := by
  have hb0 := Blk.new w 38 #[.int .i64 1, .int .i64 a, .string ⟨#[]⟩, .int .i64 0, .int .i64 s, .int .i64 m]
  have hsb : (s == 0) = false := by simpa using hs0
  go_enter Tryz.func28, Tryz.ntmps28
  have hmb : (m == 0) = false := by simpa using hm
  go_wp2_with fail
  refine (HT.out _).mono ?_
  rintro _ w7 ⟨rfl, hw7⟩
  replace hb0 := hb0.step hw7
  have d0 := hb0.cell 0
  have d1 := hb0.cell 1
  have d2 := hb0.cell 2
  have d3 := hb0.cell 3
  have d4 := hb0.cell 4
  have d5 := hb0.cell 5
  simp at d0 d1 d2 d3 d4 d5
  go_wp2_with fail
  go_quiet (fail)
  go_wp2_with fail
  go_returns
  exact ⟨by first | rfl | simp, (by first | exact bdrewN (by (repeat' (first | (with_reducible exact Below.refl _ _) | (with_reducible assumption) | (with_reducible refine balloc ?_ _) | (with_reducible refine Below.drew ?_) | (with_reducible refine bset ?_ ?_ _) | (with_reducible refine bstep ?_ (by with_reducible assumption)) | (with_reducible refine bturn ?_ (by with_reducible assumption) ?_) | go_size))) _ | (refine bdrewN ?_; (repeat' (first | (with_reducible exact Below.refl _ _) | (with_reducible assumption) | (with_reducible refine balloc ?_ _) | (with_reducible refine Below.drew ?_) | (with_reducible refine bset ?_ ?_ _) | (with_reducible refine bstep ?_ (by with_reducible assumption)) | (with_reducible refine bturn ?_ (by with_reducible assumption) ?_) | go_size))) | ((repeat' (first | (with_reducible exact Below.refl _ _) | (with_reducible assumption) | (with_reducible refine balloc ?_ _) | (with_reducible refine Below.drew ?_) | (with_reducible refine bset ?_ ?_ _) | (with_reducible refine bstep ?_ (by with_reducible assumption)) | (with_reducible refine bturn ?_ (by with_reducible assumption) ?_) | go_size))))⟩

set_option maxHeartbeats 4000000 in
set_option maxRecDepth 100000 in
theorem wrt1oC (a : Int) (s : Int) (hs0 : ¬ s = 0) (o : ByteArray) (w : World) (HT : Hid (∀ W, Calls Tryz.prog 49 #[.agg #[.int .i64 0, .int .i64 s]] W fun e w' => e = .returned (.tuple #[.string o, .int .i64 0]) ∧ Below W.heap.size W w')) :
    Calls Tryz.prog 28 #[.agg #[.int .i64 1, .int .i64 a, .string ⟨#[]⟩, .int .i64 0, .int .i64 s, .int .i64 0]] w fun e w' => e = .returned (.tuple #[.string o, .bool true]) ∧ Below w.heap.size w w' := by
  have hb0 := Blk.new w 38 #[.int .i64 1, .int .i64 a, .string ⟨#[]⟩, .int .i64 0, .int .i64 s, .int .i64 0]
  have hsb : (s == 0) = false := by simpa using hs0
  go_enter Tryz.func28, Tryz.ntmps28
  go_wp2_with fail
  refine (HT.out _).mono ?_
  rintro _ w7 ⟨rfl, hw7⟩
  replace hb0 := hb0.step hw7
  have d0 := hb0.cell 0
  have d1 := hb0.cell 1
  have d2 := hb0.cell 2
  have d3 := hb0.cell 3
  have d4 := hb0.cell 4
  have d5 := hb0.cell 5
  simp at d0 d1 d2 d3 d4 d5
  go_wp2_with fail
  go_quiet (fail)
  go_wp2_with fail
  go_returns
  exact ⟨by first | rfl | simp, (by first | exact bdrewN (by (repeat' (first | (with_reducible exact Below.refl _ _) | (with_reducible assumption) | (with_reducible refine balloc ?_ _) | (with_reducible refine Below.drew ?_) | (with_reducible refine bset ?_ ?_ _) | (with_reducible refine bstep ?_ (by with_reducible assumption)) | (with_reducible refine bturn ?_ (by with_reducible assumption) ?_) | go_size))) _ | (refine bdrewN ?_; (repeat' (first | (with_reducible exact Below.refl _ _) | (with_reducible assumption) | (with_reducible refine balloc ?_ _) | (with_reducible refine Below.drew ?_) | (with_reducible refine bset ?_ ?_ _) | (with_reducible refine bstep ?_ (by with_reducible assumption)) | (with_reducible refine bturn ?_ (by with_reducible assumption) ?_) | go_size))) | ((repeat' (first | (with_reducible exact Below.refl _ _) | (with_reducible assumption) | (with_reducible refine balloc ?_ _) | (with_reducible refine Below.drew ?_) | (with_reducible refine bset ?_ ?_ _) | (with_reducible refine bstep ?_ (by with_reducible assumption)) | (with_reducible refine bturn ?_ (by with_reducible assumption) ?_) | go_size))))⟩

set_option maxHeartbeats 4000000 in
set_option maxRecDepth 100000 in
theorem wrt2xB (a : Int) (t : ByteArray) (m : Int) (n s : Int) (hn0 : ¬ n = 0) (o : ByteArray) (w : World) (HQ : Hid (∀ W, Calls Tryz.prog 50 #[.string t] W fun e w' => e = .returned (.string o) ∧ W = w'))  :
    Calls Tryz.prog 28 #[.agg #[.int .i64 2, .int .i64 a, .string t, .int .i64 n, .int .i64 s, .int .i64 m]] w fun e w' => e = .returned (.tuple #[.string o, .bool false]) ∧ Below w.heap.size w w' := by
  have hb0 := Blk.new w 38 #[.int .i64 2, .int .i64 a, .string t, .int .i64 n, .int .i64 s, .int .i64 m]
  have hnb : (n == 0) = false := by simpa using hn0
  go_enter Tryz.func28, Tryz.ntmps28
  go_wp2_with fail
  refine (HQ.out _).mono ?_
  rintro _ _ ⟨rfl, rfl⟩
  go_wp2_with fail
  go_returns
  exact ⟨by first | rfl | simp, (by first | exact bdrewN (by (repeat' (first | (with_reducible exact Below.refl _ _) | (with_reducible assumption) | (with_reducible refine balloc ?_ _) | (with_reducible refine Below.drew ?_) | (with_reducible refine bset ?_ ?_ _) | (with_reducible refine bstep ?_ (by with_reducible assumption)) | (with_reducible refine bturn ?_ (by with_reducible assumption) ?_) | go_size))) _ | (refine bdrewN ?_; (repeat' (first | (with_reducible exact Below.refl _ _) | (with_reducible assumption) | (with_reducible refine balloc ?_ _) | (with_reducible refine Below.drew ?_) | (with_reducible refine bset ?_ ?_ _) | (with_reducible refine bstep ?_ (by with_reducible assumption)) | (with_reducible refine bturn ?_ (by with_reducible assumption) ?_) | go_size))) | ((repeat' (first | (with_reducible exact Below.refl _ _) | (with_reducible assumption) | (with_reducible refine balloc ?_ _) | (with_reducible refine Below.drew ?_) | (with_reducible refine bset ?_ ?_ _) | (with_reducible refine bstep ?_ (by with_reducible assumption)) | (with_reducible refine bturn ?_ (by with_reducible assumption) ?_) | go_size))))⟩

set_option maxHeartbeats 4000000 in
set_option maxRecDepth 100000 in
theorem wrt2xC (a : Int) (t : ByteArray) (m : Int) (s : Int) (hs0 : ¬ s = 0) (o : ByteArray) (w : World) (HQ : Hid (∀ W, Calls Tryz.prog 50 #[.string t] W fun e w' => e = .returned (.string o) ∧ W = w'))  :
    Calls Tryz.prog 28 #[.agg #[.int .i64 2, .int .i64 a, .string t, .int .i64 0, .int .i64 s, .int .i64 m]] w fun e w' => e = .returned (.tuple #[.string o, .bool false]) ∧ Below w.heap.size w w' := by
  have hb0 := Blk.new w 38 #[.int .i64 2, .int .i64 a, .string t, .int .i64 0, .int .i64 s, .int .i64 m]
  have hsb : (s == 0) = false := by simpa using hs0
  go_enter Tryz.func28, Tryz.ntmps28
  go_wp2_with fail
  refine (HQ.out _).mono ?_
  rintro _ _ ⟨rfl, rfl⟩
  go_wp2_with fail
  go_returns
  exact ⟨by first | rfl | simp, (by first | exact bdrewN (by (repeat' (first | (with_reducible exact Below.refl _ _) | (with_reducible assumption) | (with_reducible refine balloc ?_ _) | (with_reducible refine Below.drew ?_) | (with_reducible refine bset ?_ ?_ _) | (with_reducible refine bstep ?_ (by with_reducible assumption)) | (with_reducible refine bturn ?_ (by with_reducible assumption) ?_) | go_size))) _ | (refine bdrewN ?_; (repeat' (first | (with_reducible exact Below.refl _ _) | (with_reducible assumption) | (with_reducible refine balloc ?_ _) | (with_reducible refine Below.drew ?_) | (with_reducible refine bset ?_ ?_ _) | (with_reducible refine bstep ?_ (by with_reducible assumption)) | (with_reducible refine bturn ?_ (by with_reducible assumption) ?_) | go_size))) | ((repeat' (first | (with_reducible exact Below.refl _ _) | (with_reducible assumption) | (with_reducible refine balloc ?_ _) | (with_reducible refine Below.drew ?_) | (with_reducible refine bset ?_ ?_ _) | (with_reducible refine bstep ?_ (by with_reducible assumption)) | (with_reducible refine bturn ?_ (by with_reducible assumption) ?_) | go_size))))⟩

set_option maxHeartbeats 4000000 in
set_option maxRecDepth 100000 in
theorem wrt2mA (a : Int) (t : ByteArray) (m : Int) (o : ByteArray) (w : World) (hm : ¬ m = 0) (HQ : Hid (∀ W, Calls Tryz.prog 50 #[.string t] W fun e w' => e = .returned (.string o) ∧ W = w'))  :
    Calls Tryz.prog 28 #[.agg #[.int .i64 2, .int .i64 a, .string t, .int .i64 0, .int .i64 0, .int .i64 m]] w fun e w' => e = .returned (.tuple #[.string o, .bool false]) ∧ Below w.heap.size w w' := by
  have hb0 := Blk.new w 38 #[.int .i64 2, .int .i64 a, .string t, .int .i64 0, .int .i64 0, .int .i64 m]
  go_enter Tryz.func28, Tryz.ntmps28
  have hmb : (m == 0) = false := by simpa using hm
  go_wp2_with fail
  refine (HQ.out _).mono ?_
  rintro _ _ ⟨rfl, rfl⟩
  go_wp2_with fail
  go_returns
  exact ⟨by first | rfl | simp, (by first | exact bdrewN (by (repeat' (first | (with_reducible exact Below.refl _ _) | (with_reducible assumption) | (with_reducible refine balloc ?_ _) | (with_reducible refine Below.drew ?_) | (with_reducible refine bset ?_ ?_ _) | (with_reducible refine bstep ?_ (by with_reducible assumption)) | (with_reducible refine bturn ?_ (by with_reducible assumption) ?_) | go_size))) _ | (refine bdrewN ?_; (repeat' (first | (with_reducible exact Below.refl _ _) | (with_reducible assumption) | (with_reducible refine balloc ?_ _) | (with_reducible refine Below.drew ?_) | (with_reducible refine bset ?_ ?_ _) | (with_reducible refine bstep ?_ (by with_reducible assumption)) | (with_reducible refine bturn ?_ (by with_reducible assumption) ?_) | go_size))) | ((repeat' (first | (with_reducible exact Below.refl _ _) | (with_reducible assumption) | (with_reducible refine balloc ?_ _) | (with_reducible refine Below.drew ?_) | (with_reducible refine bset ?_ ?_ _) | (with_reducible refine bstep ?_ (by with_reducible assumption)) | (with_reducible refine bturn ?_ (by with_reducible assumption) ?_) | go_size))))⟩

set_option maxHeartbeats 4000000 in
set_option maxRecDepth 100000 in
theorem wrt2lA (a : Int) (t : ByteArray) (o : ByteArray) (w : World) (hl : ¬ (t.size : Int) ≤ 256) (HQ : Hid (∀ W, Calls Tryz.prog 50 #[.string t] W fun e w' => e = .returned (.string o) ∧ W = w'))  :
    Calls Tryz.prog 28 #[.agg #[.int .i64 2, .int .i64 a, .string t, .int .i64 0, .int .i64 0, .int .i64 0]] w fun e w' => e = .returned (.tuple #[.string o, .bool false]) ∧ Below w.heap.size w w' := by
  have hb0 := Blk.new w 38 #[.int .i64 2, .int .i64 a, .string t, .int .i64 0, .int .i64 0, .int .i64 0]
  go_enter Tryz.func28, Tryz.ntmps28
  go_wp2_with fail
  refine (HQ.out _).mono ?_
  rintro _ _ ⟨rfl, rfl⟩
  go_wp2_with fail
  go_returns
  exact ⟨by first | rfl | simp, (by first | exact bdrewN (by (repeat' (first | (with_reducible exact Below.refl _ _) | (with_reducible assumption) | (with_reducible refine balloc ?_ _) | (with_reducible refine Below.drew ?_) | (with_reducible refine bset ?_ ?_ _) | (with_reducible refine bstep ?_ (by with_reducible assumption)) | (with_reducible refine bturn ?_ (by with_reducible assumption) ?_) | go_size))) _ | (refine bdrewN ?_; (repeat' (first | (with_reducible exact Below.refl _ _) | (with_reducible assumption) | (with_reducible refine balloc ?_ _) | (with_reducible refine Below.drew ?_) | (with_reducible refine bset ?_ ?_ _) | (with_reducible refine bstep ?_ (by with_reducible assumption)) | (with_reducible refine bturn ?_ (by with_reducible assumption) ?_) | go_size))) | ((repeat' (first | (with_reducible exact Below.refl _ _) | (with_reducible assumption) | (with_reducible refine balloc ?_ _) | (with_reducible refine Below.drew ?_) | (with_reducible refine bset ?_ ?_ _) | (with_reducible refine bstep ?_ (by with_reducible assumption)) | (with_reducible refine bturn ?_ (by with_reducible assumption) ?_) | go_size))))⟩

set_option maxHeartbeats 4000000 in
set_option maxRecDepth 100000 in
theorem wrt2gA (a : Int) (t : ByteArray) (o : ByteArray) (b : Bool) (w : World) (hl : (t.size : Int) ≤ 256) (HQ : Hid (∀ W, Calls Tryz.prog 50 #[.string t] W fun e w' => e = .returned (.string o) ∧ W = w')) (HG : Hid (∀ W, Calls Tryz.prog 40 #[.string t] W fun e w' => e = .returned (.bool b) ∧ W = w'))  :
    Calls Tryz.prog 28 #[.agg #[.int .i64 2, .int .i64 a, .string t, .int .i64 0, .int .i64 0, .int .i64 0]] w fun e w' => e = .returned (.tuple #[.string o, .bool b]) ∧ Below w.heap.size w w' := by
  have hb0 := Blk.new w 38 #[.int .i64 2, .int .i64 a, .string t, .int .i64 0, .int .i64 0, .int .i64 0]
  go_enter Tryz.func28, Tryz.ntmps28
  go_wp2_with fail
  refine (HQ.out _).mono ?_
  rintro _ _ ⟨rfl, rfl⟩
  go_wp2_with fail
  refine (HG.out _).mono ?_
  rintro _ _ ⟨rfl, rfl⟩
  go_wp2_with fail
  go_returns
  exact ⟨by first | rfl | simp, (by first | exact bdrewN (by (repeat' (first | (with_reducible exact Below.refl _ _) | (with_reducible assumption) | (with_reducible refine balloc ?_ _) | (with_reducible refine Below.drew ?_) | (with_reducible refine bset ?_ ?_ _) | (with_reducible refine bstep ?_ (by with_reducible assumption)) | (with_reducible refine bturn ?_ (by with_reducible assumption) ?_) | go_size))) _ | (refine bdrewN ?_; (repeat' (first | (with_reducible exact Below.refl _ _) | (with_reducible assumption) | (with_reducible refine balloc ?_ _) | (with_reducible refine Below.drew ?_) | (with_reducible refine bset ?_ ?_ _) | (with_reducible refine bstep ?_ (by with_reducible assumption)) | (with_reducible refine bturn ?_ (by with_reducible assumption) ?_) | go_size))) | ((repeat' (first | (with_reducible exact Below.refl _ _) | (with_reducible assumption) | (with_reducible refine balloc ?_ _) | (with_reducible refine Below.drew ?_) | (with_reducible refine bset ?_ ?_ _) | (with_reducible refine bstep ?_ (by with_reducible assumption)) | (with_reducible refine bturn ?_ (by with_reducible assumption) ?_) | go_size))))⟩

set_option maxHeartbeats 4000000 in
set_option maxRecDepth 100000 in
theorem wrt3eA (a : Int) (t : ByteArray) (m : Int) (o0 o : ByteArray) (te : Int) (w : World) (ho : (⟨#[64, 34]⟩ ++ o0) ++ ⟨#[34]⟩ = o) (ho0 : o0.size ≤ 1000) (hte : ¬ te = 0) (HT : Hid (∀ W, Calls Tryz.prog 51 #[.int .i64 m] W fun e w' => e = .returned (.tuple #[.string o0, .int .i64 te]) ∧ Below W.heap.size W w')) :
    Calls Tryz.prog 28 #[.agg #[.int .i64 3, .int .i64 a, .string t, .int .i64 0, .int .i64 0, .int .i64 m]] w fun e w' => e = .returned (.tuple #[.string o, .bool false]) ∧ Below w.heap.size w w' := by
  have hb0 := Blk.new w 38 #[.int .i64 3, .int .i64 a, .string t, .int .i64 0, .int .i64 0, .int .i64 m]
  go_enter Tryz.func28, Tryz.ntmps28
  have htb : (te == 0) = false := by simpa using hte
  go_wp2_with fail
  refine (HT.out _).mono ?_
  rintro _ w7 ⟨rfl, hw7⟩
  replace hb0 := hb0.step hw7
  have d0 := hb0.cell 0
  have d1 := hb0.cell 1
  have d2 := hb0.cell 2
  have d3 := hb0.cell 3
  have d4 := hb0.cell 4
  have d5 := hb0.cell 5
  simp at d0 d1 d2 d3 d4 d5
  go_wp2_with fail
  go_quiet (fail)
  go_wp2_with fail
  go_returns
  exact ⟨by first | rfl | simp, (by first | exact bdrewN (by (repeat' (first | (with_reducible exact Below.refl _ _) | (with_reducible assumption) | (with_reducible refine balloc ?_ _) | (with_reducible refine Below.drew ?_) | (with_reducible refine bset ?_ ?_ _) | (with_reducible refine bstep ?_ (by with_reducible assumption)) | (with_reducible refine bturn ?_ (by with_reducible assumption) ?_) | go_size))) _ | (refine bdrewN ?_; (repeat' (first | (with_reducible exact Below.refl _ _) | (with_reducible assumption) | (with_reducible refine balloc ?_ _) | (with_reducible refine Below.drew ?_) | (with_reducible refine bset ?_ ?_ _) | (with_reducible refine bstep ?_ (by with_reducible assumption)) | (with_reducible refine bturn ?_ (by with_reducible assumption) ?_) | go_size))) | ((repeat' (first | (with_reducible exact Below.refl _ _) | (with_reducible assumption) | (with_reducible refine balloc ?_ _) | (with_reducible refine Below.drew ?_) | (with_reducible refine bset ?_ ?_ _) | (with_reducible refine bstep ?_ (by with_reducible assumption)) | (with_reducible refine bturn ?_ (by with_reducible assumption) ?_) | go_size))))⟩

set_option maxHeartbeats 4000000 in
set_option maxRecDepth 100000 in
theorem wrt3eB (a : Int) (t : ByteArray) (m : Int) (n s : Int) (hn0 : ¬ n = 0) (o0 o : ByteArray) (te : Int) (w : World) (ho : (⟨#[64, 34]⟩ ++ o0) ++ ⟨#[34]⟩ = o) (ho0 : o0.size ≤ 1000) (hte : ¬ te = 0) (HT : Hid (∀ W, Calls Tryz.prog 51 #[.int .i64 m] W fun e w' => e = .returned (.tuple #[.string o0, .int .i64 te]) ∧ Below W.heap.size W w')) :
    Calls Tryz.prog 28 #[.agg #[.int .i64 3, .int .i64 a, .string t, .int .i64 n, .int .i64 s, .int .i64 m]] w fun e w' => e = .returned (.tuple #[.string o, .bool false]) ∧ Below w.heap.size w w' := by
  have hb0 := Blk.new w 38 #[.int .i64 3, .int .i64 a, .string t, .int .i64 n, .int .i64 s, .int .i64 m]
  have hnb : (n == 0) = false := by simpa using hn0
  go_enter Tryz.func28, Tryz.ntmps28
  have htb : (te == 0) = false := by simpa using hte
  go_wp2_with fail
  refine (HT.out _).mono ?_
  rintro _ w7 ⟨rfl, hw7⟩
  replace hb0 := hb0.step hw7
  have d0 := hb0.cell 0
  have d1 := hb0.cell 1
  have d2 := hb0.cell 2
  have d3 := hb0.cell 3
  have d4 := hb0.cell 4
  have d5 := hb0.cell 5
  simp at d0 d1 d2 d3 d4 d5
  go_wp2_with fail
  go_quiet (fail)
  go_wp2_with fail
  go_returns
  exact ⟨by first | rfl | simp, (by first | exact bdrewN (by (repeat' (first | (with_reducible exact Below.refl _ _) | (with_reducible assumption) | (with_reducible refine balloc ?_ _) | (with_reducible refine Below.drew ?_) | (with_reducible refine bset ?_ ?_ _) | (with_reducible refine bstep ?_ (by with_reducible assumption)) | (with_reducible refine bturn ?_ (by with_reducible assumption) ?_) | go_size))) _ | (refine bdrewN ?_; (repeat' (first | (with_reducible exact Below.refl _ _) | (with_reducible assumption) | (with_reducible refine balloc ?_ _) | (with_reducible refine Below.drew ?_) | (with_reducible refine bset ?_ ?_ _) | (with_reducible refine bstep ?_ (by with_reducible assumption)) | (with_reducible refine bturn ?_ (by with_reducible assumption) ?_) | go_size))) | ((repeat' (first | (with_reducible exact Below.refl _ _) | (with_reducible assumption) | (with_reducible refine balloc ?_ _) | (with_reducible refine Below.drew ?_) | (with_reducible refine bset ?_ ?_ _) | (with_reducible refine bstep ?_ (by with_reducible assumption)) | (with_reducible refine bturn ?_ (by with_reducible assumption) ?_) | go_size))))⟩

set_option maxHeartbeats 4000000 in
set_option maxRecDepth 100000 in
theorem wrt3xB (a : Int) (t : ByteArray) (m : Int) (n s : Int) (hn0 : ¬ n = 0) (o0 o : ByteArray) (w : World) (ho : (⟨#[64, 34]⟩ ++ o0) ++ ⟨#[34]⟩ = o) (ho0 : o0.size ≤ 1000) (HT : Hid (∀ W, Calls Tryz.prog 51 #[.int .i64 m] W fun e w' => e = .returned (.tuple #[.string o0, .int .i64 0]) ∧ Below W.heap.size W w')) :
    Calls Tryz.prog 28 #[.agg #[.int .i64 3, .int .i64 a, .string t, .int .i64 n, .int .i64 s, .int .i64 m]] w fun e w' => e = .returned (.tuple #[.string o, .bool false]) ∧ Below w.heap.size w w' := by
  have hb0 := Blk.new w 38 #[.int .i64 3, .int .i64 a, .string t, .int .i64 n, .int .i64 s, .int .i64 m]
  have hnb : (n == 0) = false := by simpa using hn0
  go_enter Tryz.func28, Tryz.ntmps28
  go_wp2_with fail
  refine (HT.out _).mono ?_
  rintro _ w7 ⟨rfl, hw7⟩
  replace hb0 := hb0.step hw7
  have d0 := hb0.cell 0
  have d1 := hb0.cell 1
  have d2 := hb0.cell 2
  have d3 := hb0.cell 3
  have d4 := hb0.cell 4
  have d5 := hb0.cell 5
  simp at d0 d1 d2 d3 d4 d5
  go_wp2_with fail
  go_quiet (fail)
  go_wp2_with fail
  go_returns
  exact ⟨by first | rfl | simp, (by first | exact bdrewN (by (repeat' (first | (with_reducible exact Below.refl _ _) | (with_reducible assumption) | (with_reducible refine balloc ?_ _) | (with_reducible refine Below.drew ?_) | (with_reducible refine bset ?_ ?_ _) | (with_reducible refine bstep ?_ (by with_reducible assumption)) | (with_reducible refine bturn ?_ (by with_reducible assumption) ?_) | go_size))) _ | (refine bdrewN ?_; (repeat' (first | (with_reducible exact Below.refl _ _) | (with_reducible assumption) | (with_reducible refine balloc ?_ _) | (with_reducible refine Below.drew ?_) | (with_reducible refine bset ?_ ?_ _) | (with_reducible refine bstep ?_ (by with_reducible assumption)) | (with_reducible refine bturn ?_ (by with_reducible assumption) ?_) | go_size))) | ((repeat' (first | (with_reducible exact Below.refl _ _) | (with_reducible assumption) | (with_reducible refine balloc ?_ _) | (with_reducible refine Below.drew ?_) | (with_reducible refine bset ?_ ?_ _) | (with_reducible refine bstep ?_ (by with_reducible assumption)) | (with_reducible refine bturn ?_ (by with_reducible assumption) ?_) | go_size))))⟩

set_option maxHeartbeats 4000000 in
set_option maxRecDepth 100000 in
theorem wrt3eC (a : Int) (t : ByteArray) (m : Int) (s : Int) (hs0 : ¬ s = 0) (o0 o : ByteArray) (te : Int) (w : World) (ho : (⟨#[64, 34]⟩ ++ o0) ++ ⟨#[34]⟩ = o) (ho0 : o0.size ≤ 1000) (hte : ¬ te = 0) (HT : Hid (∀ W, Calls Tryz.prog 51 #[.int .i64 m] W fun e w' => e = .returned (.tuple #[.string o0, .int .i64 te]) ∧ Below W.heap.size W w')) :
    Calls Tryz.prog 28 #[.agg #[.int .i64 3, .int .i64 a, .string t, .int .i64 0, .int .i64 s, .int .i64 m]] w fun e w' => e = .returned (.tuple #[.string o, .bool false]) ∧ Below w.heap.size w w' := by
  have hb0 := Blk.new w 38 #[.int .i64 3, .int .i64 a, .string t, .int .i64 0, .int .i64 s, .int .i64 m]
  have hsb : (s == 0) = false := by simpa using hs0
  go_enter Tryz.func28, Tryz.ntmps28
  have htb : (te == 0) = false := by simpa using hte
  go_wp2_with fail
  refine (HT.out _).mono ?_
  rintro _ w7 ⟨rfl, hw7⟩
  replace hb0 := hb0.step hw7
  have d0 := hb0.cell 0
  have d1 := hb0.cell 1
  have d2 := hb0.cell 2
  have d3 := hb0.cell 3
  have d4 := hb0.cell 4
  have d5 := hb0.cell 5
  simp at d0 d1 d2 d3 d4 d5
  go_wp2_with fail
  go_quiet (fail)
  go_wp2_with fail
  go_returns
  exact ⟨by first | rfl | simp, (by first | exact bdrewN (by (repeat' (first | (with_reducible exact Below.refl _ _) | (with_reducible assumption) | (with_reducible refine balloc ?_ _) | (with_reducible refine Below.drew ?_) | (with_reducible refine bset ?_ ?_ _) | (with_reducible refine bstep ?_ (by with_reducible assumption)) | (with_reducible refine bturn ?_ (by with_reducible assumption) ?_) | go_size))) _ | (refine bdrewN ?_; (repeat' (first | (with_reducible exact Below.refl _ _) | (with_reducible assumption) | (with_reducible refine balloc ?_ _) | (with_reducible refine Below.drew ?_) | (with_reducible refine bset ?_ ?_ _) | (with_reducible refine bstep ?_ (by with_reducible assumption)) | (with_reducible refine bturn ?_ (by with_reducible assumption) ?_) | go_size))) | ((repeat' (first | (with_reducible exact Below.refl _ _) | (with_reducible assumption) | (with_reducible refine balloc ?_ _) | (with_reducible refine Below.drew ?_) | (with_reducible refine bset ?_ ?_ _) | (with_reducible refine bstep ?_ (by with_reducible assumption)) | (with_reducible refine bturn ?_ (by with_reducible assumption) ?_) | go_size))))⟩

set_option maxHeartbeats 4000000 in
set_option maxRecDepth 100000 in
theorem wrt3xC (a : Int) (t : ByteArray) (m : Int) (s : Int) (hs0 : ¬ s = 0) (o0 o : ByteArray) (w : World) (ho : (⟨#[64, 34]⟩ ++ o0) ++ ⟨#[34]⟩ = o) (ho0 : o0.size ≤ 1000) (HT : Hid (∀ W, Calls Tryz.prog 51 #[.int .i64 m] W fun e w' => e = .returned (.tuple #[.string o0, .int .i64 0]) ∧ Below W.heap.size W w')) :
    Calls Tryz.prog 28 #[.agg #[.int .i64 3, .int .i64 a, .string t, .int .i64 0, .int .i64 s, .int .i64 m]] w fun e w' => e = .returned (.tuple #[.string o, .bool false]) ∧ Below w.heap.size w w' := by
  have hb0 := Blk.new w 38 #[.int .i64 3, .int .i64 a, .string t, .int .i64 0, .int .i64 s, .int .i64 m]
  have hsb : (s == 0) = false := by simpa using hs0
  go_enter Tryz.func28, Tryz.ntmps28
  go_wp2_with fail
  refine (HT.out _).mono ?_
  rintro _ w7 ⟨rfl, hw7⟩
  replace hb0 := hb0.step hw7
  have d0 := hb0.cell 0
  have d1 := hb0.cell 1
  have d2 := hb0.cell 2
  have d3 := hb0.cell 3
  have d4 := hb0.cell 4
  have d5 := hb0.cell 5
  simp at d0 d1 d2 d3 d4 d5
  go_wp2_with fail
  go_quiet (fail)
  go_wp2_with fail
  go_returns
  exact ⟨by first | rfl | simp, (by first | exact bdrewN (by (repeat' (first | (with_reducible exact Below.refl _ _) | (with_reducible assumption) | (with_reducible refine balloc ?_ _) | (with_reducible refine Below.drew ?_) | (with_reducible refine bset ?_ ?_ _) | (with_reducible refine bstep ?_ (by with_reducible assumption)) | (with_reducible refine bturn ?_ (by with_reducible assumption) ?_) | go_size))) _ | (refine bdrewN ?_; (repeat' (first | (with_reducible exact Below.refl _ _) | (with_reducible assumption) | (with_reducible refine balloc ?_ _) | (with_reducible refine Below.drew ?_) | (with_reducible refine bset ?_ ?_ _) | (with_reducible refine bstep ?_ (by with_reducible assumption)) | (with_reducible refine bturn ?_ (by with_reducible assumption) ?_) | go_size))) | ((repeat' (first | (with_reducible exact Below.refl _ _) | (with_reducible assumption) | (with_reducible refine balloc ?_ _) | (with_reducible refine Below.drew ?_) | (with_reducible refine bset ?_ ?_ _) | (with_reducible refine bstep ?_ (by with_reducible assumption)) | (with_reducible refine bturn ?_ (by with_reducible assumption) ?_) | go_size))))⟩

set_option maxHeartbeats 4000000 in
set_option maxRecDepth 100000 in
theorem wrt3tA (a : Int) (t : ByteArray) (m : Int) (o0 o : ByteArray) (w : World) (ho : (⟨#[64, 34]⟩ ++ o0) ++ ⟨#[34]⟩ = o) (ho0 : o0.size ≤ 1000) (ht : t.toList.isEmpty = false) (HT : Hid (∀ W, Calls Tryz.prog 51 #[.int .i64 m] W fun e w' => e = .returned (.tuple #[.string o0, .int .i64 0]) ∧ Below W.heap.size W w')) :
    Calls Tryz.prog 28 #[.agg #[.int .i64 3, .int .i64 a, .string t, .int .i64 0, .int .i64 0, .int .i64 m]] w fun e w' => e = .returned (.tuple #[.string o, .bool false]) ∧ Below w.heap.size w w' := by
  have hb0 := Blk.new w 38 #[.int .i64 3, .int .i64 a, .string t, .int .i64 0, .int .i64 0, .int .i64 m]
  go_enter Tryz.func28, Tryz.ntmps28
  go_wp2_with fail
  refine (HT.out _).mono ?_
  rintro _ w7 ⟨rfl, hw7⟩
  replace hb0 := hb0.step hw7
  have d0 := hb0.cell 0
  have d1 := hb0.cell 1
  have d2 := hb0.cell 2
  have d3 := hb0.cell 3
  have d4 := hb0.cell 4
  have d5 := hb0.cell 5
  simp at d0 d1 d2 d3 d4 d5
  go_wp2_with fail
  go_quiet (fail)
  go_wp2_with fail
  go_returns
  exact ⟨by first | rfl | simp, (by first | exact bdrewN (by (repeat' (first | (with_reducible exact Below.refl _ _) | (with_reducible assumption) | (with_reducible refine balloc ?_ _) | (with_reducible refine Below.drew ?_) | (with_reducible refine bset ?_ ?_ _) | (with_reducible refine bstep ?_ (by with_reducible assumption)) | (with_reducible refine bturn ?_ (by with_reducible assumption) ?_) | go_size))) _ | (refine bdrewN ?_; (repeat' (first | (with_reducible exact Below.refl _ _) | (with_reducible assumption) | (with_reducible refine balloc ?_ _) | (with_reducible refine Below.drew ?_) | (with_reducible refine bset ?_ ?_ _) | (with_reducible refine bstep ?_ (by with_reducible assumption)) | (with_reducible refine bturn ?_ (by with_reducible assumption) ?_) | go_size))) | ((repeat' (first | (with_reducible exact Below.refl _ _) | (with_reducible assumption) | (with_reducible refine balloc ?_ _) | (with_reducible refine Below.drew ?_) | (with_reducible refine bset ?_ ?_ _) | (with_reducible refine bstep ?_ (by with_reducible assumption)) | (with_reducible refine bturn ?_ (by with_reducible assumption) ?_) | go_size))))⟩

set_option maxHeartbeats 4000000 in
set_option maxRecDepth 100000 in
theorem wrt3oA (a : Int) (m : Int) (o0 o : ByteArray) (w : World) (ho : (⟨#[64, 34]⟩ ++ o0) ++ ⟨#[34]⟩ = o) (ho0 : o0.size ≤ 1000) (HT : Hid (∀ W, Calls Tryz.prog 51 #[.int .i64 m] W fun e w' => e = .returned (.tuple #[.string o0, .int .i64 0]) ∧ Below W.heap.size W w')) :
    Calls Tryz.prog 28 #[.agg #[.int .i64 3, .int .i64 a, .string ⟨#[]⟩, .int .i64 0, .int .i64 0, .int .i64 m]] w fun e w' => e = .returned (.tuple #[.string o, .bool true]) ∧ Below w.heap.size w w' := by
  have hb0 := Blk.new w 38 #[.int .i64 3, .int .i64 a, .string ⟨#[]⟩, .int .i64 0, .int .i64 0, .int .i64 m]
  go_enter Tryz.func28, Tryz.ntmps28
  go_wp2_with fail
  refine (HT.out _).mono ?_
  rintro _ w7 ⟨rfl, hw7⟩
  replace hb0 := hb0.step hw7
  have d0 := hb0.cell 0
  have d1 := hb0.cell 1
  have d2 := hb0.cell 2
  have d3 := hb0.cell 3
  have d4 := hb0.cell 4
  have d5 := hb0.cell 5
  simp at d0 d1 d2 d3 d4 d5
  go_wp2_with fail
  go_quiet (fail)
  go_wp2_with fail
  go_returns
  exact ⟨by first | rfl | simp, (by first | exact bdrewN (by (repeat' (first | (with_reducible exact Below.refl _ _) | (with_reducible assumption) | (with_reducible refine balloc ?_ _) | (with_reducible refine Below.drew ?_) | (with_reducible refine bset ?_ ?_ _) | (with_reducible refine bstep ?_ (by with_reducible assumption)) | (with_reducible refine bturn ?_ (by with_reducible assumption) ?_) | go_size))) _ | (refine bdrewN ?_; (repeat' (first | (with_reducible exact Below.refl _ _) | (with_reducible assumption) | (with_reducible refine balloc ?_ _) | (with_reducible refine Below.drew ?_) | (with_reducible refine bset ?_ ?_ _) | (with_reducible refine bstep ?_ (by with_reducible assumption)) | (with_reducible refine bturn ?_ (by with_reducible assumption) ?_) | go_size))) | ((repeat' (first | (with_reducible exact Below.refl _ _) | (with_reducible assumption) | (with_reducible refine balloc ?_ _) | (with_reducible refine Below.drew ?_) | (with_reducible refine bset ?_ ?_ _) | (with_reducible refine bstep ?_ (by with_reducible assumption)) | (with_reducible refine bturn ?_ (by with_reducible assumption) ?_) | go_size))))⟩

set_option maxHeartbeats 4000000 in
set_option maxRecDepth 100000 in
theorem wrt4xB (a : Int) (t : ByteArray) (m : Int) (n s : Int) (hn0 : ¬ n = 0) (w : World)  :
    Calls Tryz.prog 28 #[.agg #[.int .i64 4, .int .i64 a, .string t, .int .i64 n, .int .i64 s, .int .i64 m]] w fun e w' => e = .returned (.tuple #[.string t, .bool false]) ∧ Below w.heap.size w w' := by
  have hb0 := Blk.new w 38 #[.int .i64 4, .int .i64 a, .string t, .int .i64 n, .int .i64 s, .int .i64 m]
  have hnb : (n == 0) = false := by simpa using hn0
  go_enter Tryz.func28, Tryz.ntmps28
  go_wp2_with fail
  go_quiet ((fail))
  go_wp2_with fail
  go_returns
  exact ⟨by first | rfl | simp, (by first | exact bdrewN (by (repeat' (first | (with_reducible exact Below.refl _ _) | (with_reducible assumption) | (with_reducible refine balloc ?_ _) | (with_reducible refine Below.drew ?_) | (with_reducible refine bset ?_ ?_ _) | (with_reducible refine bstep ?_ (by with_reducible assumption)) | (with_reducible refine bturn ?_ (by with_reducible assumption) ?_) | go_size))) _ | (refine bdrewN ?_; (repeat' (first | (with_reducible exact Below.refl _ _) | (with_reducible assumption) | (with_reducible refine balloc ?_ _) | (with_reducible refine Below.drew ?_) | (with_reducible refine bset ?_ ?_ _) | (with_reducible refine bstep ?_ (by with_reducible assumption)) | (with_reducible refine bturn ?_ (by with_reducible assumption) ?_) | go_size))) | ((repeat' (first | (with_reducible exact Below.refl _ _) | (with_reducible assumption) | (with_reducible refine balloc ?_ _) | (with_reducible refine Below.drew ?_) | (with_reducible refine bset ?_ ?_ _) | (with_reducible refine bstep ?_ (by with_reducible assumption)) | (with_reducible refine bturn ?_ (by with_reducible assumption) ?_) | go_size))))⟩

set_option maxHeartbeats 4000000 in
set_option maxRecDepth 100000 in
theorem wrt4xC (a : Int) (t : ByteArray) (m : Int) (s : Int) (hs0 : ¬ s = 0) (w : World)  :
    Calls Tryz.prog 28 #[.agg #[.int .i64 4, .int .i64 a, .string t, .int .i64 0, .int .i64 s, .int .i64 m]] w fun e w' => e = .returned (.tuple #[.string t, .bool false]) ∧ Below w.heap.size w w' := by
  have hb0 := Blk.new w 38 #[.int .i64 4, .int .i64 a, .string t, .int .i64 0, .int .i64 s, .int .i64 m]
  have hsb : (s == 0) = false := by simpa using hs0
  go_enter Tryz.func28, Tryz.ntmps28
  go_wp2_with fail
  go_quiet ((fail))
  go_wp2_with fail
  go_returns
  exact ⟨by first | rfl | simp, (by first | exact bdrewN (by (repeat' (first | (with_reducible exact Below.refl _ _) | (with_reducible assumption) | (with_reducible refine balloc ?_ _) | (with_reducible refine Below.drew ?_) | (with_reducible refine bset ?_ ?_ _) | (with_reducible refine bstep ?_ (by with_reducible assumption)) | (with_reducible refine bturn ?_ (by with_reducible assumption) ?_) | go_size))) _ | (refine bdrewN ?_; (repeat' (first | (with_reducible exact Below.refl _ _) | (with_reducible assumption) | (with_reducible refine balloc ?_ _) | (with_reducible refine Below.drew ?_) | (with_reducible refine bset ?_ ?_ _) | (with_reducible refine bstep ?_ (by with_reducible assumption)) | (with_reducible refine bturn ?_ (by with_reducible assumption) ?_) | go_size))) | ((repeat' (first | (with_reducible exact Below.refl _ _) | (with_reducible assumption) | (with_reducible refine balloc ?_ _) | (with_reducible refine Below.drew ?_) | (with_reducible refine bset ?_ ?_ _) | (with_reducible refine bstep ?_ (by with_reducible assumption)) | (with_reducible refine bturn ?_ (by with_reducible assumption) ?_) | go_size))))⟩

set_option maxHeartbeats 4000000 in
set_option maxRecDepth 100000 in
theorem wrt4mA (a : Int) (t : ByteArray) (m : Int) (w : World) (hm : ¬ m = 0) :
    Calls Tryz.prog 28 #[.agg #[.int .i64 4, .int .i64 a, .string t, .int .i64 0, .int .i64 0, .int .i64 m]] w fun e w' => e = .returned (.tuple #[.string t, .bool false]) ∧ Below w.heap.size w w' := by
  have hb0 := Blk.new w 38 #[.int .i64 4, .int .i64 a, .string t, .int .i64 0, .int .i64 0, .int .i64 m]
  go_enter Tryz.func28, Tryz.ntmps28
  have hmb : (m == 0) = false := by simpa using hm
  go_wp2_with fail
  go_quiet ((fail))
  go_wp2_with fail
  go_returns
  exact ⟨by first | rfl | simp, (by first | exact bdrewN (by (repeat' (first | (with_reducible exact Below.refl _ _) | (with_reducible assumption) | (with_reducible refine balloc ?_ _) | (with_reducible refine Below.drew ?_) | (with_reducible refine bset ?_ ?_ _) | (with_reducible refine bstep ?_ (by with_reducible assumption)) | (with_reducible refine bturn ?_ (by with_reducible assumption) ?_) | go_size))) _ | (refine bdrewN ?_; (repeat' (first | (with_reducible exact Below.refl _ _) | (with_reducible assumption) | (with_reducible refine balloc ?_ _) | (with_reducible refine Below.drew ?_) | (with_reducible refine bset ?_ ?_ _) | (with_reducible refine bstep ?_ (by with_reducible assumption)) | (with_reducible refine bturn ?_ (by with_reducible assumption) ?_) | go_size))) | ((repeat' (first | (with_reducible exact Below.refl _ _) | (with_reducible assumption) | (with_reducible refine balloc ?_ _) | (with_reducible refine Below.drew ?_) | (with_reducible refine bset ?_ ?_ _) | (with_reducible refine bstep ?_ (by with_reducible assumption)) | (with_reducible refine bturn ?_ (by with_reducible assumption) ?_) | go_size))))⟩

set_option maxHeartbeats 4000000 in
set_option maxRecDepth 100000 in
theorem wrt4oA (a : Int) (t : ByteArray) (b : Bool) (w : World) (HN : Hid (∀ W, Calls Tryz.prog 23 #[.string t] W fun e w' => e = .returned (.bool b) ∧ W = w'))  :
    Calls Tryz.prog 28 #[.agg #[.int .i64 4, .int .i64 a, .string t, .int .i64 0, .int .i64 0, .int .i64 0]] w fun e w' => e = .returned (.tuple #[.string t, .bool b]) ∧ Below w.heap.size w w' := by
  have hb0 := Blk.new w 38 #[.int .i64 4, .int .i64 a, .string t, .int .i64 0, .int .i64 0, .int .i64 0]
  go_enter Tryz.func28, Tryz.ntmps28
  go_wp2_with fail
  go_region_with (go_at_call 23; refine (HN.out _).mono ?_; rintro _ _ ⟨rfl, rfl⟩)
  all_goals
    go_wp2_with fail
    go_returns
    exact ⟨by first | rfl | simp, (by first | exact bdrewN (by (repeat' (first | (with_reducible exact Below.refl _ _) | (with_reducible assumption) | (with_reducible refine balloc ?_ _) | (with_reducible refine Below.drew ?_) | (with_reducible refine bset ?_ ?_ _) | (with_reducible refine bstep ?_ (by with_reducible assumption)) | (with_reducible refine bturn ?_ (by with_reducible assumption) ?_) | go_size))) _ | (refine bdrewN ?_; (repeat' (first | (with_reducible exact Below.refl _ _) | (with_reducible assumption) | (with_reducible refine balloc ?_ _) | (with_reducible refine Below.drew ?_) | (with_reducible refine bset ?_ ?_ _) | (with_reducible refine bstep ?_ (by with_reducible assumption)) | (with_reducible refine bturn ?_ (by with_reducible assumption) ?_) | go_size))) | ((repeat' (first | (with_reducible exact Below.refl _ _) | (with_reducible assumption) | (with_reducible refine balloc ?_ _) | (with_reducible refine Below.drew ?_) | (with_reducible refine bset ?_ ?_ _) | (with_reducible refine bstep ?_ (by with_reducible assumption)) | (with_reducible refine bturn ?_ (by with_reducible assumption) ?_) | go_size))))⟩

set_option maxHeartbeats 4000000 in
set_option maxRecDepth 100000 in
theorem wrt0A (k a : Int) (t : ByteArray) (m : Int) (w : World) (h1 : ¬ k = 1) (h2 : ¬ k = 2) (h3 : ¬ k = 3) (h4 : ¬ k = 4) (h5 : ¬ k = 5) :
    Calls Tryz.prog 28 #[.agg #[.int .i64 k, .int .i64 a, .string t, .int .i64 0, .int .i64 0, .int .i64 m]] w fun e w' => e = .returned (.tuple #[.string ⟨#[]⟩, .bool false]) ∧ Below w.heap.size w w' := by
  go_enter Tryz.func28, Tryz.ntmps28
  go_wp2_with fail
  go_returns
  exact ⟨by first | rfl | simp, (by first | exact bdrewN (by (repeat' (first | (with_reducible exact Below.refl _ _) | (with_reducible assumption) | (with_reducible refine balloc ?_ _) | (with_reducible refine Below.drew ?_) | (with_reducible refine bset ?_ ?_ _) | (with_reducible refine bstep ?_ (by with_reducible assumption)) | (with_reducible refine bturn ?_ (by with_reducible assumption) ?_) | go_size))) _ | (refine bdrewN ?_; (repeat' (first | (with_reducible exact Below.refl _ _) | (with_reducible assumption) | (with_reducible refine balloc ?_ _) | (with_reducible refine Below.drew ?_) | (with_reducible refine bset ?_ ?_ _) | (with_reducible refine bstep ?_ (by with_reducible assumption)) | (with_reducible refine bturn ?_ (by with_reducible assumption) ?_) | go_size))) | ((repeat' (first | (with_reducible exact Below.refl _ _) | (with_reducible assumption) | (with_reducible refine balloc ?_ _) | (with_reducible refine Below.drew ?_) | (with_reducible refine bset ?_ ?_ _) | (with_reducible refine bstep ?_ (by with_reducible assumption)) | (with_reducible refine bturn ?_ (by with_reducible assumption) ?_) | go_size))))⟩

set_option maxHeartbeats 4000000 in
set_option maxRecDepth 100000 in
theorem wrt0B (k a : Int) (t : ByteArray) (m : Int) (n s : Int) (hn0 : ¬ n = 0) (w : World) (h1 : ¬ k = 1) (h2 : ¬ k = 2) (h3 : ¬ k = 3) (h4 : ¬ k = 4) (h5 : ¬ k = 5) :
    Calls Tryz.prog 28 #[.agg #[.int .i64 k, .int .i64 a, .string t, .int .i64 n, .int .i64 s, .int .i64 m]] w fun e w' => e = .returned (.tuple #[.string ⟨#[]⟩, .bool false]) ∧ Below w.heap.size w w' := by
  have hnb : (n == 0) = false := by simpa using hn0
  go_enter Tryz.func28, Tryz.ntmps28
  go_wp2_with fail
  go_returns
  exact ⟨by first | rfl | simp, (by first | exact bdrewN (by (repeat' (first | (with_reducible exact Below.refl _ _) | (with_reducible assumption) | (with_reducible refine balloc ?_ _) | (with_reducible refine Below.drew ?_) | (with_reducible refine bset ?_ ?_ _) | (with_reducible refine bstep ?_ (by with_reducible assumption)) | (with_reducible refine bturn ?_ (by with_reducible assumption) ?_) | go_size))) _ | (refine bdrewN ?_; (repeat' (first | (with_reducible exact Below.refl _ _) | (with_reducible assumption) | (with_reducible refine balloc ?_ _) | (with_reducible refine Below.drew ?_) | (with_reducible refine bset ?_ ?_ _) | (with_reducible refine bstep ?_ (by with_reducible assumption)) | (with_reducible refine bturn ?_ (by with_reducible assumption) ?_) | go_size))) | ((repeat' (first | (with_reducible exact Below.refl _ _) | (with_reducible assumption) | (with_reducible refine balloc ?_ _) | (with_reducible refine Below.drew ?_) | (with_reducible refine bset ?_ ?_ _) | (with_reducible refine bstep ?_ (by with_reducible assumption)) | (with_reducible refine bturn ?_ (by with_reducible assumption) ?_) | go_size))))⟩

set_option maxHeartbeats 4000000 in
set_option maxRecDepth 100000 in
theorem wrt0C (k a : Int) (t : ByteArray) (m : Int) (s : Int) (hs0 : ¬ s = 0) (w : World) (h1 : ¬ k = 1) (h2 : ¬ k = 2) (h3 : ¬ k = 3) (h4 : ¬ k = 4) (h5 : ¬ k = 5) :
    Calls Tryz.prog 28 #[.agg #[.int .i64 k, .int .i64 a, .string t, .int .i64 0, .int .i64 s, .int .i64 m]] w fun e w' => e = .returned (.tuple #[.string ⟨#[]⟩, .bool false]) ∧ Below w.heap.size w w' := by
  have hsb : (s == 0) = false := by simpa using hs0
  go_enter Tryz.func28, Tryz.ntmps28
  go_wp2_with fail
  go_returns
  exact ⟨by first | rfl | simp, (by first | exact bdrewN (by (repeat' (first | (with_reducible exact Below.refl _ _) | (with_reducible assumption) | (with_reducible refine balloc ?_ _) | (with_reducible refine Below.drew ?_) | (with_reducible refine bset ?_ ?_ _) | (with_reducible refine bstep ?_ (by with_reducible assumption)) | (with_reducible refine bturn ?_ (by with_reducible assumption) ?_) | go_size))) _ | (refine bdrewN ?_; (repeat' (first | (with_reducible exact Below.refl _ _) | (with_reducible assumption) | (with_reducible refine balloc ?_ _) | (with_reducible refine Below.drew ?_) | (with_reducible refine bset ?_ ?_ _) | (with_reducible refine bstep ?_ (by with_reducible assumption)) | (with_reducible refine bturn ?_ (by with_reducible assumption) ?_) | go_size))) | ((repeat' (first | (with_reducible exact Below.refl _ _) | (with_reducible assumption) | (with_reducible refine balloc ?_ _) | (with_reducible refine Below.drew ?_) | (with_reducible refine bset ?_ ?_ _) | (with_reducible refine bstep ?_ (by with_reducible assumption)) | (with_reducible refine bturn ?_ (by with_reducible assumption) ?_) | go_size))))⟩


theorem findp_go {p : Bs → Bool} {L : List Bs} {k : Nat} {q : Bs} (hq : L[k]? = some q) (hb : p q = false) : (L.drop k).find? p = (L.drop (k + 1)).find? p := by
  obtain ⟨hlt, he⟩ := List.getElem?_eq_some_iff.1 hq
  rw [List.drop_eq_getElem_cons hlt, he, List.find?_cons, hb]
theorem findp_stop {p : Bs → Bool} {L : List Bs} {k : Nat} {q : Bs} (hq : L[k]? = some q) (hb : p q = true) : (L.drop k).find? p = some q := by
  obtain ⟨hlt, he⟩ := List.getElem?_eq_some_iff.1 hq
  rw [List.drop_eq_getElem_cons hlt, he, List.find?_cons, hb]

set_option maxHeartbeats 4000000 in
set_option maxRecDepth 100000 in
theorem wrt5oA (a : Int) (t : ByteArray) (l : Bs) (w : World) (hl : t.data.toList = l) (f : Option Bs) (hf : signsL.find? (fun g => l == g) = f) (U : ByteArray) (hU : ∀ q, f = some q → U = bs q) (hU0 : f = none → U = ⟨#[]⟩) (b : Bool) (hb1 : f.isSome = true → b = true) (hb2 : f = none → b = false) :
    Calls Tryz.prog 28 #[.agg #[.int .i64 5, .int .i64 a, .string t, .int .i64 0, .int .i64 0, .int .i64 0]] w fun e w' => e = .returned (.tuple #[.string U, .bool b]) ∧ Below w.heap.size w w' := by
  have hb0 := Blk.new w 38 #[.int .i64 5, .int .i64 a, .string t, .int .i64 0, .int .i64 0, .int .i64 0]
  have HFd := Lib.hid hf
  have HU := Lib.hid (And.intro hU (And.intro hU0 (And.intro hb1 hb2)))
  have Hl := Lib.hid hl
  clear hf hU hU0 hl hb1 hb2
  go_enter Tryz.func28, Tryz.ntmps28
  go_wp2_with fail
  go_loopw [112, 10] (fun i _ wr => ∃ k : Nat, k ≤ 16 ∧ i = .int .i64 (k : Int) ∧ SS wr (w.heap.size + 1) signsL ∧ Blk wr w.heap.size 38 #[.int .i64 5, .int .i64 a, .string t, .int .i64 0, .int .i64 0, .int .i64 0] ∧ w.heap.size + 1 < wr.heap.size ∧ Below w.heap.size w wr ∧ Hid ((signsL.drop k).find? (fun g => l == g) = f)) (fun i _ _ => 16 - (intOf i).toNat)
  case atStart => exact ⟨0, by omega, rfl, SS.of_blk (Blk.new' _ _ _ (by simp)), hb0.alloc _, by simp, by (repeat' (first | (with_reducible exact Below.refl _ _) | (with_reducible assumption) | (with_reducible refine balloc ?_ _) | (with_reducible refine Below.drew ?_) | (with_reducible refine bset ?_ ?_ _) | (with_reducible refine bstep ?_ (by with_reducible assumption)) | (with_reducible refine bturn ?_ (by with_reducible assumption) ?_) | go_size)), HFd⟩
  case round =>
    obtain ⟨k, hk, rfl, hS, hb0, hlg, hbr, HQ⟩ := hrel
    by_cases hlt : k < 16
    · obtain ⟨q, hq⟩ : ∃ q, signsL[k]? = some q := ⟨signsL[k]'hlt, List.getElem?_eq_getElem hlt⟩
      have hc := hS k q hq
      obtain ⟨Q, hQ⟩ : ∃ Q, bs q = Q := ⟨_, rfl⟩
      rw [hQ] at hc
      have Hq := Lib.hid hq
      have HS := Lib.hid hS
      have HB0 := Lib.hid hb0
      have hllg := lts hlg
      have d0 := hb0.cell 0
      have d1 := hb0.cell 1
      have d2 := hb0.cell 2
      have d3 := hb0.cell 3
      have d4 := hb0.cell 4
      have d5 := hb0.cell 5
      simp at d0 d1 d2 d3 d4 d5
      have hE : (t.toList == Q.toList) = (l == q) := by rw [Lib.toList_data, Lib.toList_data, Hl.out, ← hQ]; rfl
      clear hS hq hb0
      cases hb : (l == q) with
      | true =>
        rw [hb] at hE
        have hfq : f = some q := by rw [← HQ.out]; exact findp_stop Hq.out hb
        have HR := Lib.hid (show U = Q ∧ b = true from ⟨by rw [HU.out.1 q hfq, hQ], HU.out.2.2.1 (by rw [hfq]; rfl)⟩)
        clear hb hfq hQ
        go_wp2_with fail
        go_quiet (fail)
        go_wp2_with fail
        go_returns
        exact ⟨by rw [HR.out.1, HR.out.2]; first | rfl | simp, (by first | exact bdrewN (by (repeat' (first | (with_reducible exact Below.refl _ _) | (with_reducible assumption) | (with_reducible refine balloc ?_ _) | (with_reducible refine Below.drew ?_) | (with_reducible refine bset ?_ ?_ _) | (with_reducible refine bstep ?_ (by with_reducible assumption)) | (with_reducible refine bturn ?_ (by with_reducible assumption) ?_) | go_size))) _ | (refine bdrewN ?_; (repeat' (first | (with_reducible exact Below.refl _ _) | (with_reducible assumption) | (with_reducible refine balloc ?_ _) | (with_reducible refine Below.drew ?_) | (with_reducible refine bset ?_ ?_ _) | (with_reducible refine bstep ?_ (by with_reducible assumption)) | (with_reducible refine bturn ?_ (by with_reducible assumption) ?_) | go_size))) | ((repeat' (first | (with_reducible exact Below.refl _ _) | (with_reducible assumption) | (with_reducible refine balloc ?_ _) | (with_reducible refine Below.drew ?_) | (with_reducible refine bset ?_ ?_ _) | (with_reducible refine bstep ?_ (by with_reducible assumption)) | (with_reducible refine bturn ?_ (by with_reducible assumption) ?_) | go_size))))⟩
      | false =>
        rw [hb] at hE
        have HQ2 : Hid ((signsL.drop (k + 1)).find? (fun g => l == g) = f) := Lib.hid (by rw [← HQ.out]; exact (findp_go Hq.out hb).symm)
        clear hb hQ
        go_wp2_with fail
        go_roundw
        case rel => exact ⟨k + 1, by omega, by go_num, HS.out, HB0.out, hlg, hbr, HQ2⟩
        case measure => simp [intOf]; omega
    · obtain rfl : k = 16 := by omega
      have hfq : f = none := by rw [← HQ.out]; rfl
      have HR := Lib.hid (show U = ⟨#[]⟩ ∧ b = false from ⟨HU.out.2.1 hfq, HU.out.2.2.2 hfq⟩)
      clear hfq hS
      go_wp2_with fail
      go_returns
      exact ⟨by rw [HR.out.1, HR.out.2]; first | rfl | simp, (by first | exact bdrewN (by (repeat' (first | (with_reducible exact Below.refl _ _) | (with_reducible assumption) | (with_reducible refine balloc ?_ _) | (with_reducible refine Below.drew ?_) | (with_reducible refine bset ?_ ?_ _) | (with_reducible refine bstep ?_ (by with_reducible assumption)) | (with_reducible refine bturn ?_ (by with_reducible assumption) ?_) | go_size))) _ | (refine bdrewN ?_; (repeat' (first | (with_reducible exact Below.refl _ _) | (with_reducible assumption) | (with_reducible refine balloc ?_ _) | (with_reducible refine Below.drew ?_) | (with_reducible refine bset ?_ ?_ _) | (with_reducible refine bstep ?_ (by with_reducible assumption)) | (with_reducible refine bturn ?_ (by with_reducible assumption) ?_) | go_size))) | ((repeat' (first | (with_reducible exact Below.refl _ _) | (with_reducible assumption) | (with_reducible refine balloc ?_ _) | (with_reducible refine Below.drew ?_) | (with_reducible refine bset ?_ ?_ _) | (with_reducible refine bstep ?_ (by with_reducible assumption)) | (with_reducible refine bturn ?_ (by with_reducible assumption) ?_) | go_size))))⟩

set_option maxHeartbeats 4000000 in
set_option maxRecDepth 100000 in
theorem wrt5mA (a : Int) (t : ByteArray) (m : Int) (l : Bs) (w : World) (hl : t.data.toList = l) (f : Option Bs) (hf : signsL.find? (fun g => l == g) = f) (U : ByteArray) (hU : ∀ q, f = some q → U = bs q) (hU0 : f = none → U = ⟨#[]⟩) (b : Bool) (hb1 : f.isSome = true → b = false) (hb2 : f = none → b = false) (hm : ¬ m = 0) :
    Calls Tryz.prog 28 #[.agg #[.int .i64 5, .int .i64 a, .string t, .int .i64 0, .int .i64 0, .int .i64 m]] w fun e w' => e = .returned (.tuple #[.string U, .bool b]) ∧ Below w.heap.size w w' := by
  have hb0 := Blk.new w 38 #[.int .i64 5, .int .i64 a, .string t, .int .i64 0, .int .i64 0, .int .i64 m]
  have HFd := Lib.hid hf
  have HU := Lib.hid (And.intro hU (And.intro hU0 (And.intro hb1 hb2)))
  have Hl := Lib.hid hl
  clear hf hU hU0 hl hb1 hb2
  have hmb : (m == 0) = false := by simpa using hm
  go_enter Tryz.func28, Tryz.ntmps28
  go_wp2_with fail
  go_loopw [112, 10] (fun i _ wr => ∃ k : Nat, k ≤ 16 ∧ i = .int .i64 (k : Int) ∧ SS wr (w.heap.size + 1) signsL ∧ Blk wr w.heap.size 38 #[.int .i64 5, .int .i64 a, .string t, .int .i64 0, .int .i64 0, .int .i64 m] ∧ w.heap.size + 1 < wr.heap.size ∧ Below w.heap.size w wr ∧ Hid ((signsL.drop k).find? (fun g => l == g) = f)) (fun i _ _ => 16 - (intOf i).toNat)
  case atStart => exact ⟨0, by omega, rfl, SS.of_blk (Blk.new' _ _ _ (by simp)), hb0.alloc _, by simp, by (repeat' (first | (with_reducible exact Below.refl _ _) | (with_reducible assumption) | (with_reducible refine balloc ?_ _) | (with_reducible refine Below.drew ?_) | (with_reducible refine bset ?_ ?_ _) | (with_reducible refine bstep ?_ (by with_reducible assumption)) | (with_reducible refine bturn ?_ (by with_reducible assumption) ?_) | go_size)), HFd⟩
  case round =>
    obtain ⟨k, hk, rfl, hS, hb0, hlg, hbr, HQ⟩ := hrel
    by_cases hlt : k < 16
    · obtain ⟨q, hq⟩ : ∃ q, signsL[k]? = some q := ⟨signsL[k]'hlt, List.getElem?_eq_getElem hlt⟩
      have hc := hS k q hq
      obtain ⟨Q, hQ⟩ : ∃ Q, bs q = Q := ⟨_, rfl⟩
      rw [hQ] at hc
      have Hq := Lib.hid hq
      have HS := Lib.hid hS
      have HB0 := Lib.hid hb0
      have hllg := lts hlg
      have d0 := hb0.cell 0
      have d1 := hb0.cell 1
      have d2 := hb0.cell 2
      have d3 := hb0.cell 3
      have d4 := hb0.cell 4
      have d5 := hb0.cell 5
      simp at d0 d1 d2 d3 d4 d5
      have hE : (t.toList == Q.toList) = (l == q) := by rw [Lib.toList_data, Lib.toList_data, Hl.out, ← hQ]; rfl
      clear hS hq hb0
      cases hb : (l == q) with
      | true =>
        rw [hb] at hE
        have hfq : f = some q := by rw [← HQ.out]; exact findp_stop Hq.out hb
        have HR := Lib.hid (show U = Q ∧ b = false from ⟨by rw [HU.out.1 q hfq, hQ], HU.out.2.2.1 (by rw [hfq]; rfl)⟩)
        clear hb hfq hQ
        go_wp2_with fail
        go_quiet (fail)
        go_wp2_with fail
        go_returns
        exact ⟨by rw [HR.out.1, HR.out.2]; first | rfl | simp, (by first | exact bdrewN (by (repeat' (first | (with_reducible exact Below.refl _ _) | (with_reducible assumption) | (with_reducible refine balloc ?_ _) | (with_reducible refine Below.drew ?_) | (with_reducible refine bset ?_ ?_ _) | (with_reducible refine bstep ?_ (by with_reducible assumption)) | (with_reducible refine bturn ?_ (by with_reducible assumption) ?_) | go_size))) _ | (refine bdrewN ?_; (repeat' (first | (with_reducible exact Below.refl _ _) | (with_reducible assumption) | (with_reducible refine balloc ?_ _) | (with_reducible refine Below.drew ?_) | (with_reducible refine bset ?_ ?_ _) | (with_reducible refine bstep ?_ (by with_reducible assumption)) | (with_reducible refine bturn ?_ (by with_reducible assumption) ?_) | go_size))) | ((repeat' (first | (with_reducible exact Below.refl _ _) | (with_reducible assumption) | (with_reducible refine balloc ?_ _) | (with_reducible refine Below.drew ?_) | (with_reducible refine bset ?_ ?_ _) | (with_reducible refine bstep ?_ (by with_reducible assumption)) | (with_reducible refine bturn ?_ (by with_reducible assumption) ?_) | go_size))))⟩
      | false =>
        rw [hb] at hE
        have HQ2 : Hid ((signsL.drop (k + 1)).find? (fun g => l == g) = f) := Lib.hid (by rw [← HQ.out]; exact (findp_go Hq.out hb).symm)
        clear hb hQ
        go_wp2_with fail
        go_roundw
        case rel => exact ⟨k + 1, by omega, by go_num, HS.out, HB0.out, hlg, hbr, HQ2⟩
        case measure => simp [intOf]; omega
    · obtain rfl : k = 16 := by omega
      have hfq : f = none := by rw [← HQ.out]; rfl
      have HR := Lib.hid (show U = ⟨#[]⟩ ∧ b = false from ⟨HU.out.2.1 hfq, HU.out.2.2.2 hfq⟩)
      clear hfq hS
      go_wp2_with fail
      go_returns
      exact ⟨by rw [HR.out.1, HR.out.2]; first | rfl | simp, (by first | exact bdrewN (by (repeat' (first | (with_reducible exact Below.refl _ _) | (with_reducible assumption) | (with_reducible refine balloc ?_ _) | (with_reducible refine Below.drew ?_) | (with_reducible refine bset ?_ ?_ _) | (with_reducible refine bstep ?_ (by with_reducible assumption)) | (with_reducible refine bturn ?_ (by with_reducible assumption) ?_) | go_size))) _ | (refine bdrewN ?_; (repeat' (first | (with_reducible exact Below.refl _ _) | (with_reducible assumption) | (with_reducible refine balloc ?_ _) | (with_reducible refine Below.drew ?_) | (with_reducible refine bset ?_ ?_ _) | (with_reducible refine bstep ?_ (by with_reducible assumption)) | (with_reducible refine bturn ?_ (by with_reducible assumption) ?_) | go_size))) | ((repeat' (first | (with_reducible exact Below.refl _ _) | (with_reducible assumption) | (with_reducible refine balloc ?_ _) | (with_reducible refine Below.drew ?_) | (with_reducible refine bset ?_ ?_ _) | (with_reducible refine bstep ?_ (by with_reducible assumption)) | (with_reducible refine bturn ?_ (by with_reducible assumption) ?_) | go_size))))⟩

set_option maxHeartbeats 4000000 in
set_option maxRecDepth 100000 in
theorem wrt5xB (a : Int) (t : ByteArray) (m : Int) (n s : Int) (hn0 : ¬ n = 0) (l : Bs) (w : World) (hl : t.data.toList = l) (f : Option Bs) (hf : signsL.find? (fun g => l == g) = f) (U : ByteArray) (hU : ∀ q, f = some q → U = bs q) (hU0 : f = none → U = ⟨#[]⟩) (b : Bool) (hb1 : f.isSome = true → b = false) (hb2 : f = none → b = false) :
    Calls Tryz.prog 28 #[.agg #[.int .i64 5, .int .i64 a, .string t, .int .i64 n, .int .i64 s, .int .i64 m]] w fun e w' => e = .returned (.tuple #[.string U, .bool b]) ∧ Below w.heap.size w w' := by
  have hb0 := Blk.new w 38 #[.int .i64 5, .int .i64 a, .string t, .int .i64 n, .int .i64 s, .int .i64 m]
  have HFd := Lib.hid hf
  have HU := Lib.hid (And.intro hU (And.intro hU0 (And.intro hb1 hb2)))
  have Hl := Lib.hid hl
  clear hf hU hU0 hl hb1 hb2
  have hnb : (n == 0) = false := by simpa using hn0
  go_enter Tryz.func28, Tryz.ntmps28
  go_wp2_with fail
  go_loopw [112, 10] (fun i _ wr => ∃ k : Nat, k ≤ 16 ∧ i = .int .i64 (k : Int) ∧ SS wr (w.heap.size + 1) signsL ∧ Blk wr w.heap.size 38 #[.int .i64 5, .int .i64 a, .string t, .int .i64 n, .int .i64 s, .int .i64 m] ∧ w.heap.size + 1 < wr.heap.size ∧ Below w.heap.size w wr ∧ Hid ((signsL.drop k).find? (fun g => l == g) = f)) (fun i _ _ => 16 - (intOf i).toNat)
  case atStart => exact ⟨0, by omega, rfl, SS.of_blk (Blk.new' _ _ _ (by simp)), hb0.alloc _, by simp, by (repeat' (first | (with_reducible exact Below.refl _ _) | (with_reducible assumption) | (with_reducible refine balloc ?_ _) | (with_reducible refine Below.drew ?_) | (with_reducible refine bset ?_ ?_ _) | (with_reducible refine bstep ?_ (by with_reducible assumption)) | (with_reducible refine bturn ?_ (by with_reducible assumption) ?_) | go_size)), HFd⟩
  case round =>
    obtain ⟨k, hk, rfl, hS, hb0, hlg, hbr, HQ⟩ := hrel
    by_cases hlt : k < 16
    · obtain ⟨q, hq⟩ : ∃ q, signsL[k]? = some q := ⟨signsL[k]'hlt, List.getElem?_eq_getElem hlt⟩
      have hc := hS k q hq
      obtain ⟨Q, hQ⟩ : ∃ Q, bs q = Q := ⟨_, rfl⟩
      rw [hQ] at hc
      have Hq := Lib.hid hq
      have HS := Lib.hid hS
      have HB0 := Lib.hid hb0
      have hllg := lts hlg
      have d0 := hb0.cell 0
      have d1 := hb0.cell 1
      have d2 := hb0.cell 2
      have d3 := hb0.cell 3
      have d4 := hb0.cell 4
      have d5 := hb0.cell 5
      simp at d0 d1 d2 d3 d4 d5
      have hE : (t.toList == Q.toList) = (l == q) := by rw [Lib.toList_data, Lib.toList_data, Hl.out, ← hQ]; rfl
      clear hS hq hb0
      cases hb : (l == q) with
      | true =>
        rw [hb] at hE
        have hfq : f = some q := by rw [← HQ.out]; exact findp_stop Hq.out hb
        have HR := Lib.hid (show U = Q ∧ b = false from ⟨by rw [HU.out.1 q hfq, hQ], HU.out.2.2.1 (by rw [hfq]; rfl)⟩)
        clear hb hfq hQ
        go_wp2_with fail
        go_quiet (fail)
        go_wp2_with fail
        go_returns
        exact ⟨by rw [HR.out.1, HR.out.2]; first | rfl | simp, (by first | exact bdrewN (by (repeat' (first | (with_reducible exact Below.refl _ _) | (with_reducible assumption) | (with_reducible refine balloc ?_ _) | (with_reducible refine Below.drew ?_) | (with_reducible refine bset ?_ ?_ _) | (with_reducible refine bstep ?_ (by with_reducible assumption)) | (with_reducible refine bturn ?_ (by with_reducible assumption) ?_) | go_size))) _ | (refine bdrewN ?_; (repeat' (first | (with_reducible exact Below.refl _ _) | (with_reducible assumption) | (with_reducible refine balloc ?_ _) | (with_reducible refine Below.drew ?_) | (with_reducible refine bset ?_ ?_ _) | (with_reducible refine bstep ?_ (by with_reducible assumption)) | (with_reducible refine bturn ?_ (by with_reducible assumption) ?_) | go_size))) | ((repeat' (first | (with_reducible exact Below.refl _ _) | (with_reducible assumption) | (with_reducible refine balloc ?_ _) | (with_reducible refine Below.drew ?_) | (with_reducible refine bset ?_ ?_ _) | (with_reducible refine bstep ?_ (by with_reducible assumption)) | (with_reducible refine bturn ?_ (by with_reducible assumption) ?_) | go_size))))⟩
      | false =>
        rw [hb] at hE
        have HQ2 : Hid ((signsL.drop (k + 1)).find? (fun g => l == g) = f) := Lib.hid (by rw [← HQ.out]; exact (findp_go Hq.out hb).symm)
        clear hb hQ
        go_wp2_with fail
        go_roundw
        case rel => exact ⟨k + 1, by omega, by go_num, HS.out, HB0.out, hlg, hbr, HQ2⟩
        case measure => simp [intOf]; omega
    · obtain rfl : k = 16 := by omega
      have hfq : f = none := by rw [← HQ.out]; rfl
      have HR := Lib.hid (show U = ⟨#[]⟩ ∧ b = false from ⟨HU.out.2.1 hfq, HU.out.2.2.2 hfq⟩)
      clear hfq hS
      go_wp2_with fail
      go_returns
      exact ⟨by rw [HR.out.1, HR.out.2]; first | rfl | simp, (by first | exact bdrewN (by (repeat' (first | (with_reducible exact Below.refl _ _) | (with_reducible assumption) | (with_reducible refine balloc ?_ _) | (with_reducible refine Below.drew ?_) | (with_reducible refine bset ?_ ?_ _) | (with_reducible refine bstep ?_ (by with_reducible assumption)) | (with_reducible refine bturn ?_ (by with_reducible assumption) ?_) | go_size))) _ | (refine bdrewN ?_; (repeat' (first | (with_reducible exact Below.refl _ _) | (with_reducible assumption) | (with_reducible refine balloc ?_ _) | (with_reducible refine Below.drew ?_) | (with_reducible refine bset ?_ ?_ _) | (with_reducible refine bstep ?_ (by with_reducible assumption)) | (with_reducible refine bturn ?_ (by with_reducible assumption) ?_) | go_size))) | ((repeat' (first | (with_reducible exact Below.refl _ _) | (with_reducible assumption) | (with_reducible refine balloc ?_ _) | (with_reducible refine Below.drew ?_) | (with_reducible refine bset ?_ ?_ _) | (with_reducible refine bstep ?_ (by with_reducible assumption)) | (with_reducible refine bturn ?_ (by with_reducible assumption) ?_) | go_size))))⟩

set_option maxHeartbeats 4000000 in
set_option maxRecDepth 100000 in
theorem wrt5xC (a : Int) (t : ByteArray) (m : Int) (s : Int) (hs0 : ¬ s = 0) (l : Bs) (w : World) (hl : t.data.toList = l) (f : Option Bs) (hf : signsL.find? (fun g => l == g) = f) (U : ByteArray) (hU : ∀ q, f = some q → U = bs q) (hU0 : f = none → U = ⟨#[]⟩) (b : Bool) (hb1 : f.isSome = true → b = false) (hb2 : f = none → b = false) :
    Calls Tryz.prog 28 #[.agg #[.int .i64 5, .int .i64 a, .string t, .int .i64 0, .int .i64 s, .int .i64 m]] w fun e w' => e = .returned (.tuple #[.string U, .bool b]) ∧ Below w.heap.size w w' := by
  have hb0 := Blk.new w 38 #[.int .i64 5, .int .i64 a, .string t, .int .i64 0, .int .i64 s, .int .i64 m]
  have HFd := Lib.hid hf
  have HU := Lib.hid (And.intro hU (And.intro hU0 (And.intro hb1 hb2)))
  have Hl := Lib.hid hl
  clear hf hU hU0 hl hb1 hb2
  have hsb : (s == 0) = false := by simpa using hs0
  go_enter Tryz.func28, Tryz.ntmps28
  go_wp2_with fail
  go_loopw [112, 10] (fun i _ wr => ∃ k : Nat, k ≤ 16 ∧ i = .int .i64 (k : Int) ∧ SS wr (w.heap.size + 1) signsL ∧ Blk wr w.heap.size 38 #[.int .i64 5, .int .i64 a, .string t, .int .i64 0, .int .i64 s, .int .i64 m] ∧ w.heap.size + 1 < wr.heap.size ∧ Below w.heap.size w wr ∧ Hid ((signsL.drop k).find? (fun g => l == g) = f)) (fun i _ _ => 16 - (intOf i).toNat)
  case atStart => exact ⟨0, by omega, rfl, SS.of_blk (Blk.new' _ _ _ (by simp)), hb0.alloc _, by simp, by (repeat' (first | (with_reducible exact Below.refl _ _) | (with_reducible assumption) | (with_reducible refine balloc ?_ _) | (with_reducible refine Below.drew ?_) | (with_reducible refine bset ?_ ?_ _) | (with_reducible refine bstep ?_ (by with_reducible assumption)) | (with_reducible refine bturn ?_ (by with_reducible assumption) ?_) | go_size)), HFd⟩
  case round =>
    obtain ⟨k, hk, rfl, hS, hb0, hlg, hbr, HQ⟩ := hrel
    by_cases hlt : k < 16
    · obtain ⟨q, hq⟩ : ∃ q, signsL[k]? = some q := ⟨signsL[k]'hlt, List.getElem?_eq_getElem hlt⟩
      have hc := hS k q hq
      obtain ⟨Q, hQ⟩ : ∃ Q, bs q = Q := ⟨_, rfl⟩
      rw [hQ] at hc
      have Hq := Lib.hid hq
      have HS := Lib.hid hS
      have HB0 := Lib.hid hb0
      have hllg := lts hlg
      have d0 := hb0.cell 0
      have d1 := hb0.cell 1
      have d2 := hb0.cell 2
      have d3 := hb0.cell 3
      have d4 := hb0.cell 4
      have d5 := hb0.cell 5
      simp at d0 d1 d2 d3 d4 d5
      have hE : (t.toList == Q.toList) = (l == q) := by rw [Lib.toList_data, Lib.toList_data, Hl.out, ← hQ]; rfl
      clear hS hq hb0
      cases hb : (l == q) with
      | true =>
        rw [hb] at hE
        have hfq : f = some q := by rw [← HQ.out]; exact findp_stop Hq.out hb
        have HR := Lib.hid (show U = Q ∧ b = false from ⟨by rw [HU.out.1 q hfq, hQ], HU.out.2.2.1 (by rw [hfq]; rfl)⟩)
        clear hb hfq hQ
        go_wp2_with fail
        go_quiet (fail)
        go_wp2_with fail
        go_returns
        exact ⟨by rw [HR.out.1, HR.out.2]; first | rfl | simp, (by first | exact bdrewN (by (repeat' (first | (with_reducible exact Below.refl _ _) | (with_reducible assumption) | (with_reducible refine balloc ?_ _) | (with_reducible refine Below.drew ?_) | (with_reducible refine bset ?_ ?_ _) | (with_reducible refine bstep ?_ (by with_reducible assumption)) | (with_reducible refine bturn ?_ (by with_reducible assumption) ?_) | go_size))) _ | (refine bdrewN ?_; (repeat' (first | (with_reducible exact Below.refl _ _) | (with_reducible assumption) | (with_reducible refine balloc ?_ _) | (with_reducible refine Below.drew ?_) | (with_reducible refine bset ?_ ?_ _) | (with_reducible refine bstep ?_ (by with_reducible assumption)) | (with_reducible refine bturn ?_ (by with_reducible assumption) ?_) | go_size))) | ((repeat' (first | (with_reducible exact Below.refl _ _) | (with_reducible assumption) | (with_reducible refine balloc ?_ _) | (with_reducible refine Below.drew ?_) | (with_reducible refine bset ?_ ?_ _) | (with_reducible refine bstep ?_ (by with_reducible assumption)) | (with_reducible refine bturn ?_ (by with_reducible assumption) ?_) | go_size))))⟩
      | false =>
        rw [hb] at hE
        have HQ2 : Hid ((signsL.drop (k + 1)).find? (fun g => l == g) = f) := Lib.hid (by rw [← HQ.out]; exact (findp_go Hq.out hb).symm)
        clear hb hQ
        go_wp2_with fail
        go_roundw
        case rel => exact ⟨k + 1, by omega, by go_num, HS.out, HB0.out, hlg, hbr, HQ2⟩
        case measure => simp [intOf]; omega
    · obtain rfl : k = 16 := by omega
      have hfq : f = none := by rw [← HQ.out]; rfl
      have HR := Lib.hid (show U = ⟨#[]⟩ ∧ b = false from ⟨HU.out.2.1 hfq, HU.out.2.2.2 hfq⟩)
      clear hfq hS
      go_wp2_with fail
      go_returns
      exact ⟨by rw [HR.out.1, HR.out.2]; first | rfl | simp, (by first | exact bdrewN (by (repeat' (first | (with_reducible exact Below.refl _ _) | (with_reducible assumption) | (with_reducible refine balloc ?_ _) | (with_reducible refine Below.drew ?_) | (with_reducible refine bset ?_ ?_ _) | (with_reducible refine bstep ?_ (by with_reducible assumption)) | (with_reducible refine bturn ?_ (by with_reducible assumption) ?_) | go_size))) _ | (refine bdrewN ?_; (repeat' (first | (with_reducible exact Below.refl _ _) | (with_reducible assumption) | (with_reducible refine balloc ?_ _) | (with_reducible refine Below.drew ?_) | (with_reducible refine bset ?_ ?_ _) | (with_reducible refine bstep ?_ (by with_reducible assumption)) | (with_reducible refine bturn ?_ (by with_reducible assumption) ?_) | go_size))) | ((repeat' (first | (with_reducible exact Below.refl _ _) | (with_reducible assumption) | (with_reducible refine balloc ?_ _) | (with_reducible refine Below.drew ?_) | (with_reducible refine bset ?_ ?_ _) | (with_reducible refine bstep ?_ (by with_reducible assumption)) | (with_reducible refine bturn ?_ (by with_reducible assumption) ?_) | go_size))))⟩

end Go.Proofs.YtambpkkllgppdaaGreatDoor

namespace Go.Proofs.YtambpkkllgppdaaGreatDoor
open Go.RowKit

set_option maxHeartbeats 16000000 in
set_option maxRecDepth 100000 in
theorem rjoin_any (wf : Ti → Option Bs) (L : List Ti) (hL : L.length ≤ 4000000) (A : Option Addr) (n c : Nat) (hn : n = L.length) (w : World) (hM : TMi w A L)
    (hob : ∀ t ∈ L, ∀ o, wf t = some o → o.length ≤ 4000000) (J : ByteArray) (je : Int) (hJ : bs (joinV (L.map wf)).1 = J) (hje : (joinV (L.map wf)).2 = je)
    (HONE : Hid (∀ (k : Nat) (t : Ti), L[k]? = some t → ∀ W, Below w.heap.size w W → Calls Tryz.prog 28 #[.agg #[.int .i64 t.k, .int .i64 t.a, .string (bs t.t), .int .i64 t.n, .int .i64 t.s, .int .i64 t.m]] W fun e w' => (∃ u, e = .returned (.tuple #[.string u, .bool (wf t).isSome]) ∧ (∀ o, wf t = some o → u = bs o)) ∧ Below W.heap.size W w')) :
    Calls Tryz.prog 15 #[.slice A n c] w fun e w' => e = .returned (.tuple #[.string J, .int .i64 je]) ∧ Below w.heap.size w w' := by
  subst hn
  have HM := Lib.hid hM
  have HJ := Lib.hid (And.intro hJ hje)
  have Hob := Lib.hid hob
  clear hJ hje hM hob
  go_enter Tryz.func15, Tryz.ntmps15
  go_wp2_with fail
  go_loopw [6, 4, 5, 7, 8] (fun i g f _ _ wv => ∃ (k : Nat) (fl : Bool) (o : Bs) (ob : ByteArray) (P : List Bs), k ≤ L.length ∧ i = .int .i64 (k : Int) ∧ g = .string ob ∧ f = .bool fl ∧ Hid (allS ((L.map wf).take k) = some P ∧ P.length = k ∧ (fl = false → o = tailB 0 P) ∧ o.length ≤ 65536 ∧ (fl = true → 65536 < (tailB 0 P).length) ∧ bs o = ob) ∧ Below w.heap.size w wv) (fun i _ _ _ _ _ => L.length - (intOf i).toNat)
  case atStart => exact ⟨0, false, [], ⟨#[]⟩, [], by omega, rfl, rfl, rfl, Lib.hid ⟨rfl, rfl, fun _ => rfl, by simp, (fun h => by cases h), rfl⟩, by (repeat' (first | (with_reducible exact Below.refl _ _) | (with_reducible assumption) | (with_reducible refine balloc ?_ _) | (with_reducible refine Below.drew ?_) | (with_reducible refine bset ?_ ?_ _) | (with_reducible refine bstep ?_ (by with_reducible assumption)) | (with_reducible refine bturn ?_ (by with_reducible assumption) ?_) | go_size))⟩
  case round =>
    obtain ⟨k, fl, o, ob, P, hk, rfl, rfl, rfl, HT, hbr⟩ := hrel
    have hsz := hbr.size
    have hos : ob.size = o.length := by rw [← HT.out.2.2.2.2.2, bs_size]
    by_cases hlt : k < L.length
    · obtain ⟨t, ht⟩ : ∃ t, L[k]? = some t := ⟨_, List.getElem?_eq_getElem hlt⟩
      obtain ⟨g, f, rfl, c0, c1, c2, c3, c4, c5⟩ := tmi_get (HM.out.stepB hbr) ht
      have HO := Lib.hid (HONE.out k t ht)
      obtain ⟨tt, htt⟩ : ∃ tt, bs t.t = tt := ⟨_, rfl⟩
      rw [htt] at c2 HO
      have hmk : (L.map wf)[k]? = some (wf t) := by rw [List.getElem?_map, ht]; rfl
      have Hbr := Lib.hid hbr
      cases hwr : wf t with
      | none =>
        have HV : Hid (J = bs [] ∧ je = 2) := Lib.hid (by
          have h1 := allS_stop HT.out.1 (by rw [hmk, hwr])
          have h2 := HJ.out
          unfold joinV at h2
          rw [h1] at h2
          exact ⟨h2.1.symm, h2.2.symm⟩)
        simp only [hwr, Option.isSome_none] at HO
        clear hmk ht htt hwr
        go_wp2_with fail
        refine (HO.out _ hbr).mono ?_
        rintro _ w2 ⟨⟨u, rfl, _⟩, hb2⟩
        go_wp2_with fail
        go_returns
        exact ⟨by rw [HV.out.1, HV.out.2]; rfl, Hbr.out.trans (hb2.mono hsz)⟩
      | some u =>
        simp only [hwr, Option.isSome_some] at HO
        have hus := Hob.out t (List.mem_of_getElem? ht) u hwr
        have hst := allS_step HT.out.1 (by rw [hmk, hwr])
        have hsn := tail_snoc P u
        rw [HT.out.2.1] at hsn
        have hPl : (P ++ [u]).length = k + 1 := by rw [List.length_append, HT.out.2.1]; rfl
        obtain ⟨q, hq⟩ : ∃ q, bs (if 0 < k then 32 :: u else u) = q := ⟨_, rfl⟩
        have hql : q.data.toList = if 0 < k then 32 :: u else u := by rw [← hq]; rfl
        have hqs : q.size ≤ 4000001 := by
          rw [← size_list, hql]
          split
          · rw [List.length_cons]; omega
          · omega
        rw [← hql] at hsn
        obtain ⟨U, hU⟩ : ∃ U, bs u = U := ⟨_, rfl⟩
        have hUs : U.size ≤ 4000000 := by rw [← hU, bs_size]; exact hus
        have HU : Hid (∀ x, (∀ o, some u = some o → x = bs o) → x = U) := Lib.hid (fun x h => (h u rfl).trans hU)
        have hol := HT.out.2.2.2.1
        obtain ⟨sm, hsm⟩ : ∃ sm, ob.size + q.size = sm := ⟨_, rfl⟩
        have koq1 : (ob.size : Int) + (q.size : Int) = (sm : Int) := by omega
        have koqw : IntKind.i64.wrap (sm : Int) = (sm : Int) := IntWalk.i64_in _ (by omega)
        have hcz : ob.size + q.size ≤ 9223372036854775807 := by omega
        have hu32 : 1 + U.size ≤ 9223372036854775807 := by omega
        obtain ⟨ob2, hob2⟩ : ∃ ob2, ob ++ q = ob2 := ⟨_, rfl⟩
        have HB2 : Hid (bs (o ++ q.data.toList) = ob2) := Lib.hid (by
          rw [← hob2, ← HT.out.2.2.2.2.2, ← bs_app]
          rfl)
        have hcat : 0 < k → (⟨#[32]⟩ : ByteArray) ++ U = q := fun h => by
          rw [← hq, if_pos h, ← hU]
          apply ByteArray.ext
          apply Array.toList_inj.1
          rw [ByteArray.data_append, Array.toList_append]
          rfl
        have hsame : ¬ 0 < k → U = q := fun h => by rw [← hq, if_neg h, hU]
        have Hcat := Lib.hid hcat
        have Hsame := Lib.hid hsame
        have HX : Hid (allS ((L.map wf).take (k + 1)) = some (P ++ [u]) ∧ (P ++ [u]).length = k + 1 ∧ tailB 0 (P ++ [u]) = tailB 0 P ++ q.data.toList) := Lib.hid ⟨hst, hPl, hsn⟩
        obtain ⟨k1, hk1⟩ : ∃ k1, k + 1 = k1 := ⟨_, rfl⟩
        have w4 : (k : Int) + 1 = (k1 : Int) := by omega
        have w5 : IntKind.i64.wrap (k1 : Int) = (k1 : Int) := IntWalk.i64_in _ (by omega)
        rw [hk1] at HX
        have Hos := Lib.hid hos
        clear hst hsn hPl hql hcat hsame hU hq hwr hmk ht htt hus hos
        by_cases hk0 : 0 < k
        · have hki : (0 : Int) < (k : Int) := by omega
          have hcq := Hcat.out hk0
          clear hk0
          go_wp2_with fail
          refine (HO.out _ hbr).mono ?_
          rintro _ w2 ⟨⟨x, rfl, hx⟩, hb2⟩
          obtain rfl := HU.out x hx
          clear hx
          have Hw2 := Lib.hid (Hbr.out.trans (hb2.mono hsz))
          clear hb2 hbr
          cases fl with
          | true =>
            go_wp2_with fail
            go_roundw
            case rel => exact ⟨k1, true, o, ob, P ++ [u], by omega, rfl, rfl, rfl, Lib.hid ⟨HX.out.1, HX.out.2.1, (fun h => by cases h), HT.out.2.2.2.1, (fun _ => by rw [HX.out.2.2, List.length_append]; have := HT.out.2.2.2.2.1 (by simp); omega), HT.out.2.2.2.2.2⟩, Hw2.out⟩
            case measure => simp [intOf]; omega
          | false =>
            by_cases hfit : (65536 : Int) < (sm : Int)
            · have kob : decide ((65536 : Int) < (sm : Int)) = true := decide_eq_true hfit
              have hfit2 : Hid (65536 < o.length + q.size) := Lib.hid (by rw [← Hos.out]; omega)
              clear hfit
              go_wp2_with fail
              go_roundw
              case rel => exact ⟨k1, true, o, ob, P ++ [u], by omega, rfl, rfl, rfl, Lib.hid ⟨HX.out.1, HX.out.2.1, (fun h => by cases h), HT.out.2.2.2.1, (fun _ => by rw [HX.out.2.2, List.length_append, ← HT.out.2.2.1 (by simp), size_list]; exact hfit2.out), HT.out.2.2.2.2.2⟩, Hw2.out⟩
              case measure => simp [intOf]; omega
            · have kob : decide ((65536 : Int) < (sm : Int)) = false := decide_eq_false hfit
              have hfit2 : Hid (o.length + q.size ≤ 65536) := Lib.hid (by rw [← Hos.out]; omega)
              clear hfit
              go_wp2_with fail
              go_roundw
              case rel => exact ⟨k1, false, o ++ q.data.toList, ob2, P ++ [u], by omega, rfl, rfl, rfl, Lib.hid ⟨HX.out.1, HX.out.2.1, (fun _ => by rw [HX.out.2.2, ← HT.out.2.2.1 (by simp)]), by rw [List.length_append, size_list]; exact hfit2.out, (fun h => by cases h), HB2.out⟩, Hw2.out⟩
              case measure => simp [intOf]; omega
        · have hki : ¬ (0 : Int) < (k : Int) := by omega
          have hcq := Hsame.out hk0
          clear hk0
          go_wp2_with fail
          refine (HO.out _ hbr).mono ?_
          rintro _ w2 ⟨⟨x, rfl, hx⟩, hb2⟩
          obtain rfl := HU.out x hx
          clear hx
          subst hcq
          have Hw2 := Lib.hid (Hbr.out.trans (hb2.mono hsz))
          clear hb2 hbr
          cases fl with
          | true =>
            go_wp2_with fail
            go_roundw
            case rel => exact ⟨k1, true, o, ob, P ++ [u], by omega, rfl, rfl, rfl, Lib.hid ⟨HX.out.1, HX.out.2.1, (fun h => by cases h), HT.out.2.2.2.1, (fun _ => by rw [HX.out.2.2, List.length_append]; have := HT.out.2.2.2.2.1 (by simp); omega), HT.out.2.2.2.2.2⟩, Hw2.out⟩
            case measure => simp [intOf]; omega
          | false =>
            by_cases hfit : (65536 : Int) < (sm : Int)
            · have kob : decide ((65536 : Int) < (sm : Int)) = true := decide_eq_true hfit
              have hfit2 : Hid (65536 < o.length + x.size) := Lib.hid (by rw [← Hos.out]; omega)
              clear hfit
              go_wp2_with fail
              go_roundw
              case rel => exact ⟨k1, true, o, ob, P ++ [u], by omega, rfl, rfl, rfl, Lib.hid ⟨HX.out.1, HX.out.2.1, (fun h => by cases h), HT.out.2.2.2.1, (fun _ => by rw [HX.out.2.2, List.length_append, ← HT.out.2.2.1 (by simp), size_list]; exact hfit2.out), HT.out.2.2.2.2.2⟩, Hw2.out⟩
              case measure => simp [intOf]; omega
            · have kob : decide ((65536 : Int) < (sm : Int)) = false := decide_eq_false hfit
              have hfit2 : Hid (o.length + x.size ≤ 65536) := Lib.hid (by rw [← Hos.out]; omega)
              clear hfit
              go_wp2_with fail
              go_roundw
              case rel => exact ⟨k1, false, o ++ x.data.toList, ob2, P ++ [u], by omega, rfl, rfl, rfl, Lib.hid ⟨HX.out.1, HX.out.2.1, (fun _ => by rw [HX.out.2.2, ← HT.out.2.2.1 (by simp)]), by rw [List.length_append, size_list]; exact hfit2.out, (fun h => by cases h), HB2.out⟩, Hw2.out⟩
              case measure => simp [intOf]; omega
    · obtain rfl : k = L.length := by omega
      have HE : Hid (allS (L.map wf) = some P ∧ (fl = false → o = tailB 0 P) ∧ (fl = true → 65536 < (tailB 0 P).length) ∧ o.length ≤ 65536) := Lib.hid (by
        have h1 := HT.out.1
        rw [List.take_of_length_le (by rw [List.length_map]; exact Nat.le_refl _)] at h1
        exact ⟨h1, HT.out.2.2.1, HT.out.2.2.2.2.1, HT.out.2.2.2.1⟩)
      cases fl with
      | true =>
        have HV : Hid (J = bs [] ∧ je = 10) := Lib.hid (by
          have h2 := HJ.out
          unfold joinV at h2
          rw [HE.out.1] at h2
          have h3 := HE.out.2.2.1 (by simp)
          rw [tail_join] at h3
          simp only [if_neg (show ¬ (joinB P).length ≤ 65536 by omega)] at h2
          exact ⟨h2.1.symm, h2.2.symm⟩)
        go_wp2_with fail
        go_returns
        exact ⟨by rw [HV.out.1, HV.out.2]; rfl, hbr⟩
      | false =>
        have HV : Hid (J = ob ∧ je = 0) := Lib.hid (by
          have h2 := HJ.out
          unfold joinV at h2
          rw [HE.out.1] at h2
          have h3 := HE.out.2.1 (by simp)
          rw [tail_join] at h3
          have h4 := HE.out.2.2.2
          rw [h3] at h4
          simp only [if_pos h4] at h2
          rw [← HT.out.2.2.2.2.2, h3]
          exact ⟨h2.1.symm, h2.2.symm⟩)
        go_wp2_with fail
        go_returns
        exact ⟨by rw [HV.out.1, HV.out.2]; rfl, hbr⟩
end Go.Proofs.YtambpkkllgppdaaGreatDoor

namespace Go.Proofs.YtambpkkllgppdaaGreatDoor
open Go.RowKit

open Classical in
/-- What the reference writes for a token. -/
noncomputable def rwS (t : Ti) : Option Bs :=
  if t.k = 1 then (if ¬ t.n < 0 ∧ (dT t.n t.s).2 = 0 ∧ t.t = [] ∧ t.m = 0 then some (dT t.n t.s).1 else none)
  else if t.k = 2 then (if (t.n = 0 ∧ t.s = 0 ∧ t.m = 0) ∧ t.t.length ≤ 256 ∧ goodS (bs t.t) = true then some (34 :: (escB t.t ++ [34])) else none)
  else if t.k = 3 then (if (yT t.m).2 = 0 ∧ t.t = [] ∧ t.n = 0 ∧ t.s = 0 then some (64 :: 34 :: ((yT t.m).1 ++ [34])) else none)
  else if t.k = 4 then (if (t.n = 0 ∧ t.s = 0 ∧ t.m = 0) ∧ nameB t.t = true then some t.t else none)
  else if t.k = 5 then (if (t.n = 0 ∧ t.s = 0 ∧ t.m = 0) ∧ t.t ∈ signsL then some t.t else none)
  else none

theorem rdtext (n s : Int) (hn : I64 n) (hs : I64 s) (w : World) :
    Calls Tryz.prog 49 #[.agg #[.int .i64 n, .int .i64 s]] w fun e w' => e = .returned (.tuple #[.string (bs (dT n s).1), .int .i64 (dT n s).2]) ∧ Below w.heap.size w w' := by
  unfold dT
  by_cases h : soundS n s = true
  · rw [if_pos h]
    obtain ⟨b1, b2, b3, b4, _⟩ := sound_bd h
    have hs2 : s = (s.toNat : Int) := by omega
    have hf2 := h
    rw [hs2] at hf2
    have := rtext_good n (mag n).toNat s.toNat hn (by omega) b3 b4 hf2 (mag_nat n) _ rfl w
    rw [← hs2] at this
    exact this
  · rw [if_neg h]
    exact rtext_form n s hn hs h w

theorem rgood (t : Ti) (o : Bs) (h : rwS t = some o) {w : World} (e : Ending) (w' : World) (he : e = .returned (.tuple #[.string (bs o), .bool true]) ∧ Below w.heap.size w w') : (∃ u, e = .returned (.tuple #[.string u, .bool (rwS t).isSome]) ∧ (∀ o, rwS t = some o → u = bs o)) ∧ Below w.heap.size w w' := by
  obtain ⟨rfl, hb⟩ := he
  exact ⟨⟨_, by rw [h]; rfl, fun o' ho' => by rw [h] at ho'; cases ho'; rfl⟩, hb⟩
theorem rbad (t : Ti) (h : rwS t = none) {w : World} {u : ByteArray} (e : Ending) (w' : World) (he : e = .returned (.tuple #[.string u, .bool false]) ∧ Below w.heap.size w w') : (∃ u, e = .returned (.tuple #[.string u, .bool (rwS t).isSome]) ∧ (∀ o, rwS t = some o → u = bs o)) ∧ Below w.heap.size w w' := by
  obtain ⟨rfl, hb⟩ := he
  exact ⟨⟨u, by rw [h]; rfl, fun o' ho' => by rw [h] at ho'; cases ho'⟩, hb⟩
theorem bs_empty {l : Bs} (h : l ≠ []) : (bs l).toList.isEmpty = false := by
  rw [bs_toList]
  cases l with
  | nil => exact absurd rfl h
  | cons c r => rfl

theorem rwrt_all (t : Ti) (hok : t.Ok) (hlen : t.t.length ≤ 1900000) (w : World) :
    Calls Tryz.prog 28 #[.agg #[.int .i64 t.k, .int .i64 t.a, .string (bs t.t), .int .i64 t.n, .int .i64 t.s, .int .i64 t.m]] w fun e w' => (∃ u, e = .returned (.tuple #[.string u, .bool (rwS t).isSome]) ∧ (∀ o, rwS t = some o → u = bs o)) ∧ Below w.heap.size w w' := by
  have G := fun o h => rgood t o h (w := w)
  have Bd := fun (h : rwS t = none) (u : ByteArray) => rbad t h (w := w) (u := u)
  obtain ⟨k, a, l, n, s, m⟩ := t
  obtain ⟨okn, oks, okm⟩ := hok
  simp only at okn oks okm hlen ⊢
  by_cases k1 : k = 1
  · subst k1
    have hT := fun W => rdtext n s okn oks W
    by_cases he : (dT n s).2 = 0
    · rw [he] at hT
      by_cases hl : l = []
      · subst hl
        by_cases hm : m = 0
        · subst hm
          by_cases hn0 : n = 0
          · subst hn0
            have h : rwS ⟨1, a, [], 0, s, 0⟩ = some (dT 0 s).1 := by simp [rwS, he]
            by_cases hs0 : s = 0
            · subst hs0
              exact (wrt1oA a _ w (Lib.hid hT)).mono (G _ h)
            · exact (wrt1oC a s hs0 _ w (Lib.hid hT)).mono (G _ h)
          · by_cases hn : n < 0
            · exact (wrt1nB a (bs []) 0 n s hn0 _ w hn (Lib.hid hT)).mono (Bd (by simp [rwS, hn]) _)
            · have h : rwS ⟨1, a, [], n, s, 0⟩ = some (dT n s).1 := by simp [rwS, he, hn]
              exact (wrt1oB a n s hn0 _ w (by omega) (Lib.hid hT)).mono (G _ h)
        · have h : ∀ n s, rwS ⟨1, a, [], n, s, m⟩ = none := fun n s => by simp [rwS, hm]
          by_cases hn0 : n = 0
          · subst hn0
            by_cases hs0 : s = 0
            · subst hs0
              exact (wrt1mA a m _ w hm (Lib.hid hT)).mono (Bd (h _ _) _)
            · exact (wrt1mC a m s hs0 _ w hm (Lib.hid hT)).mono (Bd (h _ _) _)
          · by_cases hn : n < 0
            · exact (wrt1nB a (bs []) m n s hn0 _ w hn (Lib.hid hT)).mono (Bd (h _ _) _)
            · exact (wrt1mB a m n s hn0 _ w (by omega) hm (Lib.hid hT)).mono (Bd (h _ _) _)
      · have h : ∀ n s, rwS ⟨1, a, l, n, s, m⟩ = none := fun n s => by simp [rwS, hl]
        by_cases hn0 : n = 0
        · subst hn0
          by_cases hs0 : s = 0
          · subst hs0
            exact (wrt1tA a (bs l) m _ w (bs_empty hl) (Lib.hid hT)).mono (Bd (h _ _) _)
          · exact (wrt1tC a (bs l) m s hs0 _ w (bs_empty hl) (Lib.hid hT)).mono (Bd (h _ _) _)
        · by_cases hn : n < 0
          · exact (wrt1nB a (bs l) m n s hn0 _ w hn (Lib.hid hT)).mono (Bd (h _ _) _)
          · exact (wrt1tB a (bs l) m n s hn0 _ w (by omega) (bs_empty hl) (Lib.hid hT)).mono (Bd (h _ _) _)
    · have h : rwS ⟨1, a, l, n, s, m⟩ = none := by simp [rwS, he]
      by_cases hn0 : n = 0
      · subst hn0
        by_cases hs0 : s = 0
        · subst hs0
          exact (wrt1eA a (bs l) m _ _ w he (Lib.hid hT)).mono (Bd h _)
        · exact (wrt1eC a (bs l) m s hs0 _ _ w he (Lib.hid hT)).mono (Bd h _)
      · exact (wrt1eB a (bs l) m n s hn0 _ _ w he (Lib.hid hT)).mono (Bd h _)
  · by_cases k2 : k = 2
    · subst k2
      have hQ := Lib.hid (fun W => rquote_any (bs l) (by rw [bs_size]; exact hlen) W)
      have hbl : (bs l).data.toList = l := rfl
      rw [hbl] at hQ
      by_cases hn0 : n = 0
      · subst hn0
        by_cases hs0 : s = 0
        · subst hs0
          by_cases hm : m = 0
          · subst hm
            by_cases h256 : l.length ≤ 256
            · have hb := rgood_any (bs l) (by rw [bs_size]; omega) (goodS (bs l)) rfl
              cases hg : goodS (bs l) with
              | true =>
                rw [hg] at hb
                exact (wrt2gA a (bs l) _ true w (by rw [bs_size]; omega) hQ (Lib.hid hb)).mono (G _ (by simp [rwS, h256, hg]))
              | false =>
                rw [hg] at hb
                exact (wrt2gA a (bs l) _ false w (by rw [bs_size]; omega) hQ (Lib.hid hb)).mono (Bd (by simp [rwS, hg]) _)
            · exact (wrt2lA a (bs l) _ w (by rw [bs_size]; omega) hQ).mono (Bd (by simp [rwS, h256]) _)
          · exact (wrt2mA a (bs l) m _ w hm hQ).mono (Bd (by simp [rwS, hm]) _)
        · exact (wrt2xC a (bs l) m s hs0 _ w hQ).mono (Bd (by simp [rwS, hs0]) _)
      · exact (wrt2xB a (bs l) m n s hn0 _ w hQ).mono (Bd (by simp [rwS, hn0]) _)
    · by_cases k3 : k = 3
      · subst k3
        obtain ⟨y10, _, hy⟩ := yT_spec m
        have hcat : ((⟨#[64, 34]⟩ : ByteArray) ++ bs (yT m).1) ++ ⟨#[34]⟩ = bs (64 :: 34 :: ((yT m).1 ++ [34])) := by
          show bs [64, 34] ++ bs (yT m).1 ++ bs [34] = _
          rw [bs_app, bs_app]
          simp
        have hos : (bs (yT m).1).size ≤ 1000 := by rw [bs_size]; omega
        by_cases he : (yT m).2 = 0
        · rw [he] at hy
          by_cases hn0 : n = 0
          · subst hn0
            by_cases hs0 : s = 0
            · subst hs0
              by_cases hl : l = []
              · subst hl
                exact (wrt3oA a m _ _ w hcat hos (Lib.hid hy)).mono (G _ (by simp [rwS, he]))
              · exact (wrt3tA a (bs l) m _ _ w hcat hos (bs_empty hl) (Lib.hid hy)).mono (Bd (by simp [rwS, hl]) _)
            · exact (wrt3xC a (bs l) m s hs0 _ _ w hcat hos (Lib.hid hy)).mono (Bd (by simp [rwS, hs0]) _)
          · exact (wrt3xB a (bs l) m n s hn0 _ _ w hcat hos (Lib.hid hy)).mono (Bd (by simp [rwS, hn0]) _)
        · have h : ∀ n s, rwS ⟨3, a, l, n, s, m⟩ = none := fun n s => by simp [rwS, he]
          by_cases hn0 : n = 0
          · subst hn0
            by_cases hs0 : s = 0
            · subst hs0
              exact (wrt3eA a (bs l) m _ _ _ w hcat hos he (Lib.hid hy)).mono (Bd (h _ _) _)
            · exact (wrt3eC a (bs l) m s hs0 _ _ _ w hcat hos he (Lib.hid hy)).mono (Bd (h _ _) _)
          · exact (wrt3eB a (bs l) m n s hn0 _ _ _ w hcat hos he (Lib.hid hy)).mono (Bd (h _ _) _)
      · by_cases k4 : k = 4
        · subst k4
          by_cases hn0 : n = 0
          · subst hn0
            by_cases hs0 : s = 0
            · subst hs0
              by_cases hm : m = 0
              · subst hm
                have hb := rname_any (bs l) l rfl (nameB l) rfl
                cases hg : nameB l with
                | true =>
                  rw [hg] at hb
                  exact (wrt4oA a (bs l) true w (Lib.hid hb)).mono (G _ (by simp [rwS, hg]))
                | false =>
                  rw [hg] at hb
                  exact (wrt4oA a (bs l) false w (Lib.hid hb)).mono (Bd (by simp [rwS, hg]) _)
              · exact (wrt4mA a (bs l) m w hm).mono (Bd (by simp [rwS, hm]) _)
            · exact (wrt4xC a (bs l) m s hs0 w).mono (Bd (by simp [rwS, hs0]) _)
          · exact (wrt4xB a (bs l) m n s hn0 w).mono (Bd (by simp [rwS, hn0]) _)
        · by_cases k5 : k = 5
          · subst k5
            cases hf : signsL.find? (fun g => l == g) with
            | none =>
              have hn : ¬ l ∈ signsL := fun h => by
                have := List.find?_eq_none.1 hf l h
                simp at this
              have h : ∀ n s m, rwS ⟨5, a, l, n, s, m⟩ = none := fun n s m => by simp [rwS, hn]
              have u1 : ∀ q, (none : Option Bs) = some q → (⟨#[]⟩ : ByteArray) = bs q := fun q h => by cases h
              have u2 : ∀ b : Bool, (none : Option Bs).isSome = true → false = b := fun b h => by cases h
              by_cases hn0 : n = 0
              · subst hn0
                by_cases hs0 : s = 0
                · subst hs0
                  by_cases hm : m = 0
                  · subst hm
                    exact (wrt5oA a (bs l) l w rfl none hf ⟨#[]⟩ u1 (fun _ => rfl) false (u2 _) (fun _ => rfl)).mono (Bd (h _ _ _) _)
                  · exact (wrt5mA a (bs l) m l w rfl none hf ⟨#[]⟩ u1 (fun _ => rfl) false (u2 _) (fun _ => rfl) hm).mono (Bd (h _ _ _) _)
                · exact (wrt5xC a (bs l) m s hs0 l w rfl none hf ⟨#[]⟩ u1 (fun _ => rfl) false (u2 _) (fun _ => rfl)).mono (Bd (h _ _ _) _)
              · exact (wrt5xB a (bs l) m n s hn0 l w rfl none hf ⟨#[]⟩ u1 (fun _ => rfl) false (u2 _) (fun _ => rfl)).mono (Bd (h _ _ _) _)
            | some q =>
              have hql : l = q := by simpa using List.find?_some hf
              have hmem : l ∈ signsL := by rw [hql]; exact List.mem_of_find?_eq_some hf
              have u1 : ∀ q', some q = some q' → bs l = bs q' := fun q' h => by cases h; rw [hql]
              have u2 : some q = none → bs l = ⟨#[]⟩ := fun h => by cases h
              have u3 : ∀ b : Bool, some q = none → b = false := fun b h => by cases h
              by_cases hn0 : n = 0
              · subst hn0
                by_cases hs0 : s = 0
                · subst hs0
                  by_cases hm : m = 0
                  · subst hm
                    exact (wrt5oA a (bs l) l w rfl (some q) hf (bs l) u1 u2 true (fun _ => rfl) (u3 _)).mono (G _ (by simp [rwS, hmem]))
                  · exact (wrt5mA a (bs l) m l w rfl (some q) hf (bs l) u1 u2 false (fun _ => rfl) (u3 _) hm).mono (Bd (by simp [rwS, hm]) _)
                · exact (wrt5xC a (bs l) m s hs0 l w rfl (some q) hf (bs l) u1 u2 false (fun _ => rfl) (u3 _)).mono (Bd (by simp [rwS, hs0]) _)
              · exact (wrt5xB a (bs l) m n s hn0 l w rfl (some q) hf (bs l) u1 u2 false (fun _ => rfl) (u3 _)).mono (Bd (by simp [rwS, hn0]) _)
          · have h : ∀ n s, rwS ⟨k, a, l, n, s, m⟩ = none := fun n s => by simp [rwS, k1, k2, k3, k4, k5]
            by_cases hn0 : n = 0
            · subst hn0
              by_cases hs0 : s = 0
              · subst hs0
                exact (wrt0A k a (bs l) m w k1 k2 k3 k4 k5).mono (Bd (h _ _) _)
              · exact (wrt0C k a (bs l) m s hs0 w k1 k2 k3 k4 k5).mono (Bd (h _ _) _)
            · exact (wrt0B k a (bs l) m n s hn0 w k1 k2 k3 k4 k5).mono (Bd (h _ _) _)
end Go.Proofs.YtambpkkllgppdaaGreatDoor

namespace Go.Proofs.YtambpkkllgppdaaGreatDoor
open Go.RowKit
open Go.Lib hiding intOf

/-- What kind a token that was read is. -/
theorem next_kind (x : Lx) (c : UInt8) (r : Bs) : (figs.contains c = true ∧ nextS x (c :: r) = numS x (c :: r) ∧ (nextS x (c :: r)).t.k = 1) ∨ (c = 34 ∧ nextS x (c :: r) = strS x r) ∨ (c = 64 ∧ nextS x (c :: r) = dateS x r) ∨ (figs.contains c = false ∧ lets.contains c = true ∧ nextS x (c :: r) = nameS (c :: r)) ∨ (nextS x (c :: r) = signS (c :: r)) := by
  unfold nextS
  simp only
  by_cases h1 : figs.contains c = true
  · rw [if_pos h1]; exact .inl ⟨h1, rfl, rfl⟩
  · rw [if_neg h1]
    by_cases h2 : c = 34
    · rw [if_pos h2]; exact .inr (.inl ⟨h2, rfl⟩)
    · rw [if_neg h2]
      by_cases h3 : c = 64
      · rw [if_pos h3]; exact .inr (.inr (.inl ⟨h3, rfl⟩))
      · rw [if_neg h3]
        by_cases h4 : lets.contains c = true
        · rw [if_pos h4]; exact .inr (.inr (.inr (.inl ⟨by simpa using h1, h4, rfl⟩)))
        · rw [if_neg h4]; exact .inr (.inr (.inr (.inr rfl)))
theorem strS_k (x : Lx) (r : Bs) : (strS x r).t.k = 2 ∨ (strS x r).t.k = 0 := by
  unfold strS
  split
  · exact .inr rfl
  · split
    · exact .inr rfl
    · exact .inl rfl
theorem dateS_k (x : Lx) (r : Bs) : (dateS x r).t.k = 3 ∨ (dateS x r).t.k = 0 := by
  unfold dateS
  split
  · exact .inr rfl
  · split
    · exact .inr rfl
    · exact .inl rfl
theorem nameS_k (l : Bs) : (nameS l).t.k = 4 ∨ (nameS l).t.k = 0 := by
  unfold nameS
  split
  · exact .inr rfl
  · exact .inl rfl
theorem signS_k (l : Bs) : ((signS l).t.k = 5 ∧ (signS l).t.t ∈ signsL) ∨ (signS l).t.k = 0 := by
  unfold signS
  cases hf : signsL.find? (fun g => g.isPrefixOf l) with
  | none => exact .inr rfl
  | some g => exact .inl ⟨rfl, List.mem_of_find?_eq_some hf⟩
theorem let_plain (c : UInt8) : lets.contains c = true → figs.contains c = false ∧ ¬ c = 34 ∧ ¬ c = 64 :=
  all_bytes (p := fun c => lets.contains c = true → figs.contains c = false ∧ ¬ c = 34 ∧ ¬ c = 64) (by decide +kernel) c
theorem runS_full {S : Bs} : ∀ {l : Bs}, runS S l = l.length → ∀ x ∈ l, S.contains x = true
  | [], _, x, hx => by cases hx
  | c :: l, h, x, hx => by
    rw [runS_cons] at h
    split at h
    · rename_i hc
      rcases List.mem_cons.1 hx with e | e
      · rw [e]; exact hc
      · exact runS_full (by simpa using h) x e
    · simp at h
theorem name_iff (x : Lx) (a n s m : Int) (l : Bs) (h0 : n = 0 ∧ s = 0 ∧ m = 0) : okT (nextS x (l ++ [32])) l ⟨4, a, l, n, s, m⟩ ↔ nameB l = true := by
  obtain ⟨rfl, rfl, rfl⟩ := h0
  constructor
  · rintro ⟨e1, e2, e3, e4, _⟩
    simp only at e3 e4
    have hne : l ≠ [] := by
      rintro rfl
      exact next_white x 32 [] rfl e1
    match l, hne with
    | c :: r, _ =>
      rw [List.cons_append] at e1 e2 e3 e4
      rcases next_kind x c (r ++ [32]) with ⟨_, _, hk⟩ | ⟨_, hk⟩ | ⟨_, hk⟩ | ⟨_, hlt, hk⟩ | hk
      · rw [hk] at e3; cases e3
      · rw [hk] at e3; rcases strS_k x (r ++ [32]) with h | h <;> rw [h] at e3 <;> cases e3
      · rw [hk] at e3; rcases dateS_k x (r ++ [32]) with h | h <;> rw [h] at e3 <;> cases e3
      · rw [hk] at e1 e2
        have hna : nameS (c :: (r ++ [32])) = nameS (c :: r) := name_app (c :: r) []
        rw [hna] at e1 e2
        unfold nameS at e1 e2
        split at e1
        · cases e1
        · rename_i hc
          rw [if_neg hc] at e2
          have hfull := runS_full e2
          rw [nameB_cons]
          simp only at e2
          rw [Bool.and_eq_true, Bool.and_eq_true]
          refine ⟨⟨decide_eq_true (by omega), by rw [let_eq]; exact hlt⟩, List.all_eq_true.2 fun y hy => by rw [nm_eq]; exact hfull y hy⟩
      · rw [hk] at e3
        rcases signS_k (c :: (r ++ [32])) with ⟨h, _⟩ | h <;> rw [h] at e3 <;> cases e3
  · intro h
    match l with
    | [] => cases h
    | c :: r =>
      rw [nameB_cons, Bool.and_eq_true, Bool.and_eq_true] at h
      obtain ⟨⟨h1, h2⟩, h3⟩ := h
      have h1' := of_decide_eq_true h1
      rw [let_eq] at h2
      obtain ⟨g1, g2, g3⟩ := let_plain c h2
      have hrun : runS (lets ++ figs) (c :: r) = (c :: r).length := runS_len fun y hy => by rw [← nm_eq]; exact List.all_eq_true.1 h3 y hy
      have hnx : nextS x (c :: r ++ [32]) = nameS (c :: r ++ 32 :: []) := by
        rw [List.cons_append]
        unfold nextS
        simp only
        rw [if_neg (by rw [g1]; decide), if_neg g2, if_neg g3, if_pos h2]
      rw [hnx, name_app]
      unfold nameS
      rw [hrun, if_neg (by omega)]
      exact ⟨rfl, rfl, rfl, List.take_length, rfl, rfl, rfl⟩
theorem sign_iff (x : Lx) (a n s m : Int) (l : Bs) (h0 : n = 0 ∧ s = 0 ∧ m = 0) : okT (nextS x (l ++ [32])) l ⟨5, a, l, n, s, m⟩ ↔ l ∈ signsL := by
  obtain ⟨rfl, rfl, rfl⟩ := h0
  constructor
  · rintro ⟨e1, e2, e3, e4, _⟩
    simp only at e3 e4
    have hne : l ≠ [] := by
      rintro rfl
      exact next_white x 32 [] rfl e1
    match l, hne with
    | c :: r, _ =>
      rw [List.cons_append] at e1 e2 e3 e4
      rcases next_kind x c (r ++ [32]) with ⟨_, _, hk⟩ | ⟨_, hk⟩ | ⟨_, hk⟩ | ⟨_, hlt, hk⟩ | hk
      · rw [hk] at e3; cases e3
      · rw [hk] at e3; rcases strS_k x (r ++ [32]) with h | h <;> rw [h] at e3 <;> cases e3
      · rw [hk] at e3; rcases dateS_k x (r ++ [32]) with h | h <;> rw [h] at e3 <;> cases e3
      · rw [hk] at e3; rcases nameS_k (c :: (r ++ [32])) with h | h <;> rw [h] at e3 <;> cases e3
      · rw [hk] at e3 e4
        rcases signS_k (c :: (r ++ [32])) with ⟨_, h⟩ | h
        · rw [e4] at h; exact h
        · rw [h] at e3; cases e3
  · intro h
    rw [sign_back x l h]
    exact ⟨rfl, rfl, rfl, rfl, rfl, rfl, rfl⟩
theorem str_iff (m0 : Int) (a n s m : Int) (l : Bs) (h0 : n = 0 ∧ s = 0 ∧ m = 0) : okT (nextS (lxX m0) (34 :: (escB l ++ [34]) ++ [32])) (34 :: (escB l ++ [34])) ⟨2, a, l, n, s, m⟩ ↔ l.length ≤ 256 ∧ goodS (bs l) = true := by
  obtain ⟨rfl, rfl, rfl⟩ := h0
  have hnx : nextS (lxX m0) (34 :: (escB l ++ [34]) ++ [32]) = strS (lxX m0) (escB l ++ 34 :: [32]) := by
    rw [List.cons_append, List.append_assoc]
    rfl
  have hG : (lxX m0).G l = goodS (bs l) := rfl
  rw [hnx]
  unfold strS
  rw [qS_esc]
  simp only
  rw [hG]
  constructor
  · rintro ⟨e1, _⟩
    split at e1
    · cases e1
    · rename_i hc
      exact ⟨by omega, by simpa using fun h => hc (.inr h)⟩
  · rintro ⟨h1, h2⟩
    rw [if_neg (by rintro (h | h); · omega
                   · rw [h2] at h; cases h)]
    exact ⟨rfl, by simp, rfl, rfl, rfl, rfl, rfl⟩
theorem num_back (m : Int) (w : World) (hw : OKW m w) (a n s : Int) (h0 : ¬ n < 0) (sd : soundS n s = true) : okT (nextS (lxX m) ((dT n s).1 ++ [32])) (dT n s).1 ⟨1, a, [], n, s, 0⟩ := by
  obtain ⟨b1, b2, b3, b4, _⟩ := sound_bd sd
  have hm0 : decide (n < 0) = false := decide_eq_false h0
  have hmg : mag n = n := by unfold mag; rw [if_neg h0]
  have hdt : dT n s = (textU n.toNat s.toNat, 0) := by
    unfold dT
    rw [if_pos sd, hm0, hmg]
    rfl
  rw [hdt]
  obtain ⟨c', r', h1, h2⟩ := text_head n.toNat s.toNat
  have hnx : nextS (lxX m) (textU n.toNat s.toNat ++ [32]) = numS (lxX m) (textU n.toNat s.toNat ++ 32 :: []) := by
    rw [h1, List.cons_append]
    unfold nextS
    exact if_pos h2
  have hl := textU_len (N := n.toNat) (sc := s.toNat) (by omega) (by omega)
  rw [hnx, num_app]
  unfold numS
  rw [numLen_text, List.take_length]
  have hb := parse_back n s n.toNat s.toNat sd (by omega) (by rw [hmg]; omega) (bs (textU n.toNat s.toNat)) (by rw [hm0]; rfl) m w hw.hm
  obtain ⟨g1, g2, g3⟩ := lxP_eq m w hw _ (by omega) hb
  exact ⟨g3, rfl, rfl, rfl, g1, g2, rfl⟩
theorem day_back (m0 : Int) (w : World) (hw : OKW m0 w) (a m : Int) (he : (yT m).2 = 0) : okT (nextS (lxX m0) (64 :: 34 :: ((yT m).1 ++ [34]) ++ [32])) (64 :: 34 :: ((yT m).1 ++ [34])) ⟨3, a, [], 0, 0, m⟩ := by
  by_cases hr : m < 0 ∨ 3652058 < m
  · obtain ⟨_, e⟩ := yT_eq m0 w hw m (l := []) (Days.text_bad m hr w)
    rw [he] at e
    cases e
  · obtain ⟨l, l10, lb, lt, lp⟩ := Days.text_read m (by omega) (by omega)
    obtain ⟨y1, y2⟩ := yT_eq m0 w hw m (lt w hw.tab)
    rw [y1]
    have hnx : nextS (lxX m0) (64 :: 34 :: (l ++ [34]) ++ [32]) = dateS (lxX m0) (34 :: (l ++ 34 :: [32])) := by
      rw [List.cons_append, List.cons_append, List.append_assoc]
      rfl
    rw [hnx]
    obtain ⟨g1, g2⟩ := lxD_eq m0 w hw l (by omega) (lp m0 w hw.hm)
    have hDl : (lxX m0).D l = (m, 0) := by
      show lxD m0 l = _
      rw [← g1, ← g2]
    have hqd : quoD (34 :: (l ++ 34 :: [32])) = some (l, 11) := by
      unfold quoD
      rw [if_pos (show (34 :: (l ++ 34 :: [32])).head? = some 34 from rfl)]
      show qS (l ++ 34 :: [32]) = _
      rw [qS_plain l [32] lb, l10]
    unfold dateS
    rw [hqd]
    simp only [hDl]
    rw [if_neg (by simp)]
    exact ⟨rfl, by simp [l10], rfl, rfl, rfl, rfl, rfl⟩
open Classical in
theorem wr_if {x : Lx} {t : Ti} {o : Bs} (h : outS t = some o) : wrS x t = if okT (nextS x (o ++ [32])) o t then some o else none := by
  unfold wrS
  rw [h]
theorem wr_no {x : Lx} {t : Ti} (h : outS t = none) : wrS x t = none := by
  unfold wrS
  rw [h]
/-- Both sides write a token alike. -/
theorem wr_eq (m0 : Int) (w : World) (hw : OKW m0 w) (t : Ti) : wrS (lxX m0) t = rwS t := by
  obtain ⟨k, a, l, n, s, m⟩ := t
  by_cases k1 : k = 1
  · subst k1
    by_cases hc : ¬ n < 0 ∧ (dT n s).2 = 0 ∧ l = [] ∧ m = 0
    · obtain ⟨c1, c2, rfl, rfl⟩ := hc
      have ho : outS ⟨1, a, [], n, s, 0⟩ = some (dT n s).1 := by simp [outS, c1, c2]
      have hr : rwS ⟨1, a, [], n, s, 0⟩ = some (dT n s).1 := by simp [rwS, c1, c2]
      have sd : soundS n s = true := by
        cases h : soundS n s with
        | true => rfl
        | false =>
          unfold dT at c2
          rw [if_neg (by rw [h]; decide)] at c2
          cases c2
      rw [wr_if ho, hr, if_pos (num_back m0 w hw a n s c1 sd)]
    · have ho : outS ⟨1, a, l, n, s, m⟩ = none := by unfold outS; rw [if_pos rfl]; exact if_neg hc
      have hr : rwS ⟨1, a, l, n, s, m⟩ = none := by unfold rwS; rw [if_pos rfl]; exact if_neg hc
      rw [wr_no ho, hr]
  · by_cases k2 : k = 2
    · subst k2
      by_cases hc : n = 0 ∧ s = 0 ∧ m = 0
      · have ho : outS ⟨2, a, l, n, s, m⟩ = some (34 :: (escB l ++ [34])) := by simp [outS, hc]
        rw [wr_if ho]
        by_cases hg : l.length ≤ 256 ∧ goodS (bs l) = true
        · rw [if_pos ((str_iff m0 a n s m l hc).2 hg)]
          simp [rwS, hc, hg]
        · rw [if_neg (fun h => hg ((str_iff m0 a n s m l hc).1 h))]
          have hr : rwS ⟨2, a, l, n, s, m⟩ = none := by unfold rwS; rw [if_neg k1, if_pos rfl]; exact if_neg (fun h => hg h.2)
          rw [hr]
      · have ho : outS ⟨2, a, l, n, s, m⟩ = none := by unfold outS; rw [if_neg k1, if_pos rfl]; exact if_neg hc
        have hr : rwS ⟨2, a, l, n, s, m⟩ = none := by unfold rwS; rw [if_neg k1, if_pos rfl]; exact if_neg (fun h => hc h.1)
        rw [wr_no ho, hr]
    · by_cases k3 : k = 3
      · subst k3
        by_cases hc : (yT m).2 = 0 ∧ l = [] ∧ n = 0 ∧ s = 0
        · obtain ⟨c1, rfl, rfl, rfl⟩ := hc
          have ho : outS ⟨3, a, [], 0, 0, m⟩ = some (64 :: 34 :: ((yT m).1 ++ [34])) := by simp [outS, c1]
          have hr : rwS ⟨3, a, [], 0, 0, m⟩ = some (64 :: 34 :: ((yT m).1 ++ [34])) := by simp [rwS, c1]
          rw [wr_if ho, hr, if_pos (day_back m0 w hw a m c1)]
        · have ho : outS ⟨3, a, l, n, s, m⟩ = none := by unfold outS; rw [if_neg k1, if_neg k2, if_pos rfl]; exact if_neg hc
          have hr : rwS ⟨3, a, l, n, s, m⟩ = none := by unfold rwS; rw [if_neg k1, if_neg k2, if_pos rfl]; exact if_neg hc
          rw [wr_no ho, hr]
      · by_cases k4 : k = 4
        · subst k4
          by_cases hc : n = 0 ∧ s = 0 ∧ m = 0
          · have ho : outS ⟨4, a, l, n, s, m⟩ = some l := by simp [outS, hc]
            rw [wr_if ho]
            by_cases hg : nameB l = true
            · rw [if_pos ((name_iff (lxX m0) a n s m l hc).2 hg)]
              simp [rwS, hc, hg]
            · rw [if_neg (fun h => hg ((name_iff (lxX m0) a n s m l hc).1 h))]
              have hr : rwS ⟨4, a, l, n, s, m⟩ = none := by unfold rwS; rw [if_neg k1, if_neg k2, if_neg k3, if_pos rfl]; exact if_neg (fun h => hg h.2)
              rw [hr]
          · have ho : outS ⟨4, a, l, n, s, m⟩ = none := by unfold outS; rw [if_neg k1, if_neg k2, if_neg k3, if_pos (.inl rfl)]; exact if_neg hc
            have hr : rwS ⟨4, a, l, n, s, m⟩ = none := by unfold rwS; rw [if_neg k1, if_neg k2, if_neg k3, if_pos rfl]; exact if_neg (fun h => hc h.1)
            rw [wr_no ho, hr]
        · by_cases k5 : k = 5
          · subst k5
            by_cases hc : n = 0 ∧ s = 0 ∧ m = 0
            · have ho : outS ⟨5, a, l, n, s, m⟩ = some l := by simp [outS, hc]
              rw [wr_if ho]
              by_cases hg : l ∈ signsL
              · rw [if_pos ((sign_iff (lxX m0) a n s m l hc).2 hg)]
                simp [rwS, hc, hg]
              · rw [if_neg (fun h => hg ((sign_iff (lxX m0) a n s m l hc).1 h))]
                have hr : rwS ⟨5, a, l, n, s, m⟩ = none := by unfold rwS; rw [if_neg k1, if_neg k2, if_neg k3, if_neg k4, if_pos rfl]; exact if_neg (fun h => hg h.2)
                rw [hr]
            · have ho : outS ⟨5, a, l, n, s, m⟩ = none := by unfold outS; rw [if_neg k1, if_neg k2, if_neg k3, if_pos (.inr rfl)]; exact if_neg hc
              have hr : rwS ⟨5, a, l, n, s, m⟩ = none := by unfold rwS; rw [if_neg k1, if_neg k2, if_neg k3, if_neg k4, if_pos rfl]; exact if_neg (fun h => hc h.1)
              rw [wr_no ho, hr]
          · have ho : outS ⟨k, a, l, n, s, m⟩ = none := by unfold outS; rw [if_neg k1, if_neg k2, if_neg k3]; exact if_neg (fun h => h.elim k4 k5)
            have hr : rwS ⟨k, a, l, n, s, m⟩ = none := by unfold rwS; rw [if_neg k1, if_neg k2, if_neg k3, if_neg k4]; exact if_neg k5
            rw [wr_no ho, hr]

theorem rjoin_all (L : List Ti) (hok : ∀ t ∈ L, t.Ok ∧ t.t.length ≤ 1900000) (hL : L.length ≤ 4000000) (A : Option Addr) (c : Nat) (w : World) (hM : TMi w A L) :
    Calls Tryz.prog 15 #[.slice A L.length c] w fun e w' => e = .returned (.tuple #[.string (bs (joinV (L.map rwS)).1), .int .i64 (joinV (L.map rwS)).2]) ∧ Below w.heap.size w w' :=
  rjoin_any rwS L hL A L.length c rfl w hM (fun t ht o ho => by
      have hl := (hok t ht).2
      have h1 := dT_len t.n t.s
      have h2 := escB_two t.t
      have h3 := (yT_spec t.m).1
      unfold rwS at ho
      split at ho
      · split at ho
        · cases ho; omega
        · cases ho
      · split at ho
        · split at ho
          · cases ho; simp; omega
          · cases ho
        · split at ho
          · split at ho
            · cases ho; simp; omega
            · cases ho
          · split at ho
            · split at ho
              · cases ho; omega
              · cases ho
            · split at ho
              · split at ho
                · cases ho; omega
                · cases ho
              · cases ho) _ _ rfl rfl
    (Lib.hid fun k t ht W hb => rwrt_all t (hok t (List.mem_of_getElem? ht)).1 (hok t (List.mem_of_getElem? ht)).2 W)

set_option maxHeartbeats 4000000 in
set_option maxRecDepth 100000 in
theorem joins_walk (A : Option Addr) (n k c : Nat) (J : ByteArray) (je : Int) (w : World) (hc : n ≤ c) (hk : Hid (k = if 300 < n then 300 else n))
    (HJ : Hid (∀ cc, Calls Tryz.prog 14 #[.slice A k cc] w fun e w' => e = .returned (.tuple #[.string J, .int .i64 je]) ∧ Below w.heap.size w w'))
    (HR : Hid (∀ cc W, Below w.heap.size w W → Calls Tryz.prog 15 #[.slice A k cc] W fun e w' => e = .returned (.tuple #[.string J, .int .i64 je]) ∧ Below W.heap.size W w'))
    (HW : Hid (∀ W, Below w.heap.size w W → Calls Tryz.prog 10 #[] W fun e w' => e = .returned (.bool true) ∧ Below W.heap.size W w')) :
    Calls Tryz.prog 4 #[.slice A n c] w fun e w' => e = .returned (.bool true) ∧ Below w.heap.size w w' := by
  have hci : (n : Int) ≤ (c : Int) := by omega
  by_cases h : 300 < n
  · have hni : (300 : Int) < (n : Int) := by omega
    have h3 : (300 : Int) ≤ (c : Int) := by omega
    have hk2 : k = 300 := by rw [hk.out, if_pos h]
    subst hk2
    clear h
    go_enter Tryz.func4, Tryz.ntmps4
    go_wp2_with fail
    refine (HJ.out _).mono ?_
    rintro _ w1 ⟨rfl, hb1⟩
    go_wp2_with fail
    refine (HR.out _ _ (by (repeat' (first | (with_reducible exact Below.refl _ _) | (with_reducible assumption) | (with_reducible refine balloc ?_ _) | (with_reducible refine Below.drew ?_) | (with_reducible refine bset ?_ ?_ _) | (with_reducible refine bstep ?_ (by with_reducible assumption)) | (with_reducible refine bturn ?_ (by with_reducible assumption) ?_) | go_size)))).mono ?_
    rintro _ w2 ⟨rfl, hb2⟩
    go_wp2_with fail
    refine (HW.out _ (by (repeat' (first | (with_reducible exact Below.refl _ _) | (with_reducible assumption) | (with_reducible refine balloc ?_ _) | (with_reducible refine Below.drew ?_) | (with_reducible refine bset ?_ ?_ _) | (with_reducible refine bstep ?_ (by with_reducible assumption)) | (with_reducible refine bturn ?_ (by with_reducible assumption) ?_) | go_size)))).mono ?_
    rintro _ w3 ⟨rfl, hb3⟩
    go_wp2_with fail
    go_returns
    exact ⟨by first | rfl | simp, by (repeat' (first | (with_reducible exact Below.refl _ _) | (with_reducible assumption) | (with_reducible refine balloc ?_ _) | (with_reducible refine Below.drew ?_) | (with_reducible refine bset ?_ ?_ _) | (with_reducible refine bstep ?_ (by with_reducible assumption)) | (with_reducible refine bturn ?_ (by with_reducible assumption) ?_) | go_size))⟩
  · have hni : ¬ (300 : Int) < (n : Int) := by omega
    have hk2 : k = n := by rw [hk.out, if_neg h]
    subst hk2
    clear h
    go_enter Tryz.func4, Tryz.ntmps4
    go_wp2_with fail
    refine (HJ.out _).mono ?_
    rintro _ w1 ⟨rfl, hb1⟩
    go_wp2_with fail
    refine (HR.out _ _ (by (repeat' (first | (with_reducible exact Below.refl _ _) | (with_reducible assumption) | (with_reducible refine balloc ?_ _) | (with_reducible refine Below.drew ?_) | (with_reducible refine bset ?_ ?_ _) | (with_reducible refine bstep ?_ (by with_reducible assumption)) | (with_reducible refine bturn ?_ (by with_reducible assumption) ?_) | go_size)))).mono ?_
    rintro _ w2 ⟨rfl, hb2⟩
    go_wp2_with fail
    refine (HW.out _ (by (repeat' (first | (with_reducible exact Below.refl _ _) | (with_reducible assumption) | (with_reducible refine balloc ?_ _) | (with_reducible refine Below.drew ?_) | (with_reducible refine bset ?_ ?_ _) | (with_reducible refine bstep ?_ (by with_reducible assumption)) | (with_reducible refine bturn ?_ (by with_reducible assumption) ?_) | go_size)))).mono ?_
    rintro _ w3 ⟨rfl, hb3⟩
    go_wp2_with fail
    go_returns
    exact ⟨by first | rfl | simp, by (repeat' (first | (with_reducible exact Below.refl _ _) | (with_reducible assumption) | (with_reducible refine balloc ?_ _) | (with_reducible refine Below.drew ?_) | (with_reducible refine bset ?_ ?_ _) | (with_reducible refine bstep ?_ (by with_reducible assumption)) | (with_reducible refine bturn ?_ (by with_reducible assumption) ?_) | go_size))⟩
theorem joinslaw_any (m : Int) (A : Option Addr) (n c : Nat) (L : List Ti) (hn : L.length = n) (hc : n ≤ c) (hok : ∀ t ∈ L, t.Ok ∧ t.t.length ≤ 1900000) (w : World) (hw : OKW m w) (hM : TMi w A L) :
    Calls Tryz.prog 4 #[.slice A n c] w fun e w' => e = .returned (.bool true) ∧ Below w.heap.size w w' := by
  obtain ⟨K, hK⟩ : ∃ K, L.take 300 = K := ⟨_, rfl⟩
  have hKl : K.length = if 300 < n then 300 else n := by
    rw [← hK, List.length_take, hn]
    split <;> omega
  have hKs : K.length ≤ 300 := by rw [hKl]; split <;> omega
  have hMK : TMi w A K := by rw [← hK]; exact hM.take 300
  have hokK : ∀ t ∈ K, t.Ok ∧ t.t.length ≤ 1900000 := fun t ht => hok t (by rw [← hK] at ht; exact List.mem_of_mem_take ht)
  have he : K.map rwS = K.map (wrS (lxX m)) := List.map_congr_left fun t _ => (wr_eq m w hw t).symm
  have HR := fun cc W (h : Below w.heap.size w W) => rjoin_all K hokK (by omega) A cc W (hMK.step h)
  rw [he] at HR
  exact joins_walk A n K.length c _ _ w hc (Lib.hid hKl) (Lib.hid fun cc => join_all m K hokK (by omega) A cc w hw hMK) (Lib.hid HR) (Lib.hid fun W (h : Below w.heap.size w W) => awake_lex m W (hw.step h))
end Go.Proofs.YtambpkkllgppdaaGreatDoor
