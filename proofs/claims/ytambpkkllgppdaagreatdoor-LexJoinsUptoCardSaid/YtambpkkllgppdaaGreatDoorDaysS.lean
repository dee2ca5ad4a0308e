/- The walk of the reference's Parse of days. -/
import Derived.Test.YtambpkkllgppdaaGreatDoorDaysN
import Derived.Test.YtambpkkllgppdaaGreatDoorDaysR
namespace Go.Proofs.YtambpkkllgppdaaGreatDoor.Days
open Go.RowKit
open Go.Lib hiding intOf

def isD (b : UInt8) : Bool := decide (48 ≤ b.toNat ∧ b.toNat ≤ 57)
def okAt (i : Nat) (b : UInt8) : Bool := if i = 4 ∨ i = 7 then b == 45 else isD b
def byteAt (s : ByteArray) (j : Nat) : UInt8 := s.data.toList.getD j 0
theorem byteAt_eq (s : ByteArray) (j : Nat) (h : j < s.size) : byteAt s j = s[j] := by
  unfold byteAt
  rw [List.getD_eq_getElem?_getD, Lib.data_getElem? s j h]
  rfl
/-- The number that the digits from place o on spell. -/
def fold10 (s : ByteArray) (o : Nat) : Nat → Nat
  | 0 => 0
  | k + 1 => fold10 s o k * 10 + ((byteAt s (o + k)).toNat - 48)
theorem fold_bd (s : ByteArray) (o : Nat) : ∀ k : Nat, (∀ j, j < k → isD (byteAt s (o + j)) = true) → fold10 s o k < 10 ^ k
  | 0, _ => by simp [fold10]
  | k + 1, h => by
    have h1 := fold_bd s o k fun j hj => h j (by omega)
    have h2 := of_decide_eq_true (h k (by omega))
    rw [fold10, Nat.pow_succ]
    omega
def wf (s : ByteArray) : Prop := s.size = 10 ∧ ∀ j, j < 10 → okAt j (byteAt s j) = true
def kk (i : Nat) : Int := if i ≤ 4 then 0 else if i ≤ 7 then 1 else 2
theorem ok_dig {i : Nat} {b : UInt8} (h : okAt i b = true) (h4 : i ≠ 4) (h7 : i ≠ 7) : isD b = true := by unfold okAt at h; rw [if_neg (by omega)] at h; exact h
theorem ok_not {i : Nat} {b : UInt8} (h : isD b = false) (h4 : i ≠ 4) (h7 : i ≠ 7) : okAt i b = false := by unfold okAt; rw [if_neg (by omega)]; exact h

set_option maxHeartbeats 1000000 in
set_option maxRecDepth 100000 in
theorem rparse_size (s : ByteArray) (h : ¬ (s.size : Int) = 10) (w : World) :
    Calls Tryz.prog 41 #[.string s] w fun e w' => e = .returned (.tuple #[.int .i64 0, .int .i64 5]) ∧ Below w.heap.size w w' := by
  go_enter Tryz.func41, Tryz.ntmps41
  go_wp2
  go_returns
  exact ⟨rfl, by (repeat' (first | (with_reducible exact Below.refl _ _) | (with_reducible assumption) | (with_reducible refine balloc ?_ _) | (with_reducible refine Below.drew ?_) | (with_reducible refine bset ?_ ?_ _) | (with_reducible refine bstep ?_ (by with_reducible assumption)) | (with_reducible refine bturn ?_ (by with_reducible assumption) ?_) | go_size))⟩

set_option maxHeartbeats 4000000 in
set_option maxRecDepth 100000 in
theorem rparse_ten (s : ByteArray) (hs : s.size = 10) (w : World) :
    Calls Tryz.prog 41 #[.string s] w fun e w' => (wf s → e = .returned (.tuple #[.int .i64 (dayR (fold10 s 0 4) (fold10 s 5 2) (fold10 s 8 2)).n, .int .i64 (dayR (fold10 s 0 4) (fold10 s 5 2) (fold10 s 8 2)).e])) ∧ (¬ wf s → e = .returned (.tuple #[.int .i64 0, .int .i64 5])) ∧ Below w.heap.size w w' := by
  have hsi : (s.size : Int) = 10 := by omega
  have hb0 := Blk.new w 85 #[.int .i64 0, .int .i64 0, .int .i64 0]
  have HB := Lib.hid hb0
  have HZ := Lib.hid hs
  clear hb0
  go_enter Tryz.func41, Tryz.ntmps41
  go_wp2
  go_loopw [5, 6] (fun q p wr => ∃ (i a b c : Nat) (kv : Int), i ≤ 10 ∧ p = .int .i64 (i : Int) ∧ q = .int .i64 kv ∧ kv = kk i ∧ Blk wr w.heap.size 85 #[.int .i64 (a : Int), .int .i64 (b : Int), .int .i64 (c : Int)] ∧ (a = fold10 s 0 (min i 4) ∧ b = fold10 s 5 (min (i - 5) 2) ∧ c = fold10 s 8 (i - 8)) ∧ (∀ j, j < i → okAt j (byteAt s j) = true) ∧ Below w.heap.size w wr) (fun _ p _ => (10 - intOf p).toNat)
  case atStart => exact ⟨0, 0, 0, 0, 0, by omega, rfl, rfl, rfl, HB.out, ⟨rfl, rfl, rfl⟩, by omega, by (repeat' (first | (with_reducible exact Below.refl _ _) | (with_reducible assumption) | (with_reducible refine balloc ?_ _) | (with_reducible refine Below.drew ?_) | (with_reducible refine bset ?_ ?_ _) | (with_reducible refine bstep ?_ (by with_reducible assumption)) | (with_reducible refine bturn ?_ (by with_reducible assumption) ?_) | go_size))⟩
  case round =>
    obtain ⟨i, a, b, c, kv, hi, rfl, rfl, hkv, hB, hf, hok, hbl⟩ := hrel
    have HF := Lib.hid hf
    have HO := Lib.hid hok
    have hl := hB.lt
    have c0 := hB.cell 0
    have c1 := hB.cell 1
    have c2 := hB.cell 2
    simp at c0 c1 c2
    clear hf hok
    by_cases hseg0 : 0 ≤ i ∧ i < 4
    · obtain ⟨g0, g1⟩ := hseg0
      obtain rfl : kv = 0 := by rw [hkv]; unfold kk; repeat (first | rw [if_pos (by omega)] | rw [if_neg (by omega)])
      have g4 : ((i : Int) == 4) = false := by simp; omega
      have g7 : ((i : Int) == 7) = false := by simp; omega
      have hlt : i < s.size := by omega
      have hbe := byteAt_eq s i hlt
      have HBE := Lib.hid hbe
      cases hd : isD (byteAt s i) with
      | true =>
        have hd2 := of_decide_eq_true hd
        have hm : a < 1000 := by
          have h1 := fold_bd s 0 (i - 0) (fun j hj => ok_dig (HO.out (0 + j) (by omega)) (by omega) (by omega))
          have h2 : 10 ^ (i - 0) ≤ 10 ^ 3 := Nat.pow_le_pow_right (by decide) (by omega)
          have h3 := HF.out.1
          rw [show min i 4 = i - 0 by omega] at h3
          omega
        have hok2 : okAt i (byteAt s i) = true := by unfold okAt; rw [if_neg (by omega)]; exact hd
        have HK := Lib.hid hok2
        rw [hbe] at hd2
        have x0 : (48 : Int) ≤ ((s[i].toNat : Nat) : Int) := by omega
        have x1 : ((s[i].toNat : Nat) : Int) ≤ 57 := by omega
        have z0 := hB.frozen 0
        have k1 : IntKind.u8.wrap (((s[i].toNat : Nat) : Int) - 48) = ((s[i].toNat : Nat) : Int) - 48 := IntWalk.u8_in _ (by omega)
        have k2 : IntKind.i64.wrap ((a : Int) * 10) = (a : Int) * 10 := IntWalk.i64_in _ (by omega)
        have k3 : IntKind.i64.wrap ((a : Int) * 10 + (((s[i].toNat : Nat) : Int) - 48)) = (a : Int) * 10 + (((s[i].toNat : Nat) : Int) - 48) := IntWalk.i64_in _ (by omega)
        have k4 : IntKind.i64.wrap (((s[i].toNat : Nat) : Int) - 48) = ((s[i].toNat : Nat) : Int) - 48 := IntWalk.i64_in _ (by omega)
        have hcast : (a : Int) * 10 + (((s[i].toNat : Nat) : Int) - 48) = ((a * 10 + ((byteAt s i).toNat - 48) : Nat) : Int) := by rw [hbe]; omega
        have HCA := Lib.hid hcast
        clear hd hd2 hbe hok2 hcast hs hkv
        go_wp2_with fail
        go_region
        clear k1 k2 k3 k4
        go_wp2
        go_roundw
        case rel => exact ⟨i + 1, a * 10 + ((byteAt s i).toNat - 48), b, c, _, by omega, by go_num, rfl, by unfold kk; repeat (first | rw [if_pos (by omega)] | rw [if_neg (by omega)]), by
          have := (hB.set_ 0 (.int .i64 ((a : Int) * 10 + (((s[i].toNat : Nat) : Int) - 48)))).drew
          rw [← HCA.out]
          exact this, by
          have h3 := HF.out
          refine ⟨?_, ?_, ?_⟩
          · first | exact h3.1.trans (by congr 1; omega) | (rw [show min (i + 1) 4 = min i 4 + 1 by omega, fold10, ← h3.1, show 0 + min i 4 = i by omega])
          · first | exact h3.2.1.trans (by congr 1; omega) | (rw [show min (i + 1 - 5) 2 = min (i - 5) 2 + 1 by omega, fold10, ← h3.2.1, show 5 + min (i - 5) 2 = i by omega])
          · first | exact h3.2.2.trans (by congr 1; omega) | (rw [show i + 1 - 8 = i - 8 + 1 by omega, fold10, ← h3.2.2, show 8 + (i - 8) = i by omega]), by
          intro j hj
          by_cases hji : j = i
          · rw [hji]; exact HK.out
          · exact HO.out j (by omega), by (repeat' (first | (with_reducible exact Below.refl _ _) | (with_reducible assumption) | (with_reducible refine balloc ?_ _) | (with_reducible refine Below.drew ?_) | (with_reducible refine bset ?_ ?_ _) | (with_reducible refine bstep ?_ (by with_reducible assumption)) | (with_reducible refine bturn ?_ (by with_reducible assumption) ?_) | go_size))⟩
        case measure => simp [intOf]; omega
      | false =>
        have hd2 := of_decide_eq_false hd
        have hnw : ¬ wf s := fun hw => by
          have := hw.2 i (by omega)
          rw [ok_not hd (by omega) (by omega)] at this
          cases this
        have HN := Lib.hid hnw
        rw [hbe] at hd2
        by_cases x0 : ((s[i].toNat : Nat) : Int) < 48
        · clear hd hd2 hbe hnw hs hkv
          go_wp2
          go_returns
          exact ⟨fun hw => absurd hw HN.out, fun _ => rfl, by (repeat' (first | (with_reducible exact Below.refl _ _) | (with_reducible assumption) | (with_reducible refine balloc ?_ _) | (with_reducible refine Below.drew ?_) | (with_reducible refine bset ?_ ?_ _) | (with_reducible refine bstep ?_ (by with_reducible assumption)) | (with_reducible refine bturn ?_ (by with_reducible assumption) ?_) | go_size))⟩
        · have x1 : (57 : Int) < ((s[i].toNat : Nat) : Int) := by omega
          clear hd hd2 hbe hnw hs hkv
          go_wp2
          go_returns
          exact ⟨fun hw => absurd hw HN.out, fun _ => rfl, by (repeat' (first | (with_reducible exact Below.refl _ _) | (with_reducible assumption) | (with_reducible refine balloc ?_ _) | (with_reducible refine Below.drew ?_) | (with_reducible refine bset ?_ ?_ _) | (with_reducible refine bstep ?_ (by with_reducible assumption)) | (with_reducible refine bturn ?_ (by with_reducible assumption) ?_) | go_size))⟩
    by_cases hseg1 : 5 ≤ i ∧ i < 7
    · obtain ⟨g0, g1⟩ := hseg1
      obtain rfl : kv = 1 := by rw [hkv]; unfold kk; repeat (first | rw [if_pos (by omega)] | rw [if_neg (by omega)])
      have g4 : ((i : Int) == 4) = false := by simp; omega
      have g7 : ((i : Int) == 7) = false := by simp; omega
      have hlt : i < s.size := by omega
      have hbe := byteAt_eq s i hlt
      have HBE := Lib.hid hbe
      cases hd : isD (byteAt s i) with
      | true =>
        have hd2 := of_decide_eq_true hd
        have hm : b < 1000 := by
          have h1 := fold_bd s 5 (i - 5) (fun j hj => ok_dig (HO.out (5 + j) (by omega)) (by omega) (by omega))
          have h2 : 10 ^ (i - 5) ≤ 10 ^ 3 := Nat.pow_le_pow_right (by decide) (by omega)
          have h3 := HF.out.2.1
          rw [show min (i - 5) 2 = i - 5 by omega] at h3
          omega
        have hok2 : okAt i (byteAt s i) = true := by unfold okAt; rw [if_neg (by omega)]; exact hd
        have HK := Lib.hid hok2
        rw [hbe] at hd2
        have x0 : (48 : Int) ≤ ((s[i].toNat : Nat) : Int) := by omega
        have x1 : ((s[i].toNat : Nat) : Int) ≤ 57 := by omega
        have z0 := hB.frozen 1
        have k1 : IntKind.u8.wrap (((s[i].toNat : Nat) : Int) - 48) = ((s[i].toNat : Nat) : Int) - 48 := IntWalk.u8_in _ (by omega)
        have k2 : IntKind.i64.wrap ((b : Int) * 10) = (b : Int) * 10 := IntWalk.i64_in _ (by omega)
        have k3 : IntKind.i64.wrap ((b : Int) * 10 + (((s[i].toNat : Nat) : Int) - 48)) = (b : Int) * 10 + (((s[i].toNat : Nat) : Int) - 48) := IntWalk.i64_in _ (by omega)
        have k4 : IntKind.i64.wrap (((s[i].toNat : Nat) : Int) - 48) = ((s[i].toNat : Nat) : Int) - 48 := IntWalk.i64_in _ (by omega)
        have hcast : (b : Int) * 10 + (((s[i].toNat : Nat) : Int) - 48) = ((b * 10 + ((byteAt s i).toNat - 48) : Nat) : Int) := by rw [hbe]; omega
        have HCA := Lib.hid hcast
        clear hd hd2 hbe hok2 hcast hs hkv
        go_wp2_with fail
        go_region
        clear k1 k2 k3 k4
        go_wp2
        go_roundw
        case rel => exact ⟨i + 1, a, b * 10 + ((byteAt s i).toNat - 48), c, _, by omega, by go_num, rfl, by unfold kk; repeat (first | rw [if_pos (by omega)] | rw [if_neg (by omega)]), by
          have := (hB.set_ 1 (.int .i64 ((b : Int) * 10 + (((s[i].toNat : Nat) : Int) - 48)))).drew
          rw [← HCA.out]
          exact this, by
          have h3 := HF.out
          refine ⟨?_, ?_, ?_⟩
          · first | exact h3.1.trans (by congr 1; omega) | (rw [show min (i + 1) 4 = min i 4 + 1 by omega, fold10, ← h3.1, show 0 + min i 4 = i by omega])
          · first | exact h3.2.1.trans (by congr 1; omega) | (rw [show min (i + 1 - 5) 2 = min (i - 5) 2 + 1 by omega, fold10, ← h3.2.1, show 5 + min (i - 5) 2 = i by omega])
          · first | exact h3.2.2.trans (by congr 1; omega) | (rw [show i + 1 - 8 = i - 8 + 1 by omega, fold10, ← h3.2.2, show 8 + (i - 8) = i by omega]), by
          intro j hj
          by_cases hji : j = i
          · rw [hji]; exact HK.out
          · exact HO.out j (by omega), by (repeat' (first | (with_reducible exact Below.refl _ _) | (with_reducible assumption) | (with_reducible refine balloc ?_ _) | (with_reducible refine Below.drew ?_) | (with_reducible refine bset ?_ ?_ _) | (with_reducible refine bstep ?_ (by with_reducible assumption)) | (with_reducible refine bturn ?_ (by with_reducible assumption) ?_) | go_size))⟩
        case measure => simp [intOf]; omega
      | false =>
        have hd2 := of_decide_eq_false hd
        have hnw : ¬ wf s := fun hw => by
          have := hw.2 i (by omega)
          rw [ok_not hd (by omega) (by omega)] at this
          cases this
        have HN := Lib.hid hnw
        rw [hbe] at hd2
        by_cases x0 : ((s[i].toNat : Nat) : Int) < 48
        · clear hd hd2 hbe hnw hs hkv
          go_wp2
          go_returns
          exact ⟨fun hw => absurd hw HN.out, fun _ => rfl, by (repeat' (first | (with_reducible exact Below.refl _ _) | (with_reducible assumption) | (with_reducible refine balloc ?_ _) | (with_reducible refine Below.drew ?_) | (with_reducible refine bset ?_ ?_ _) | (with_reducible refine bstep ?_ (by with_reducible assumption)) | (with_reducible refine bturn ?_ (by with_reducible assumption) ?_) | go_size))⟩
        · have x1 : (57 : Int) < ((s[i].toNat : Nat) : Int) := by omega
          clear hd hd2 hbe hnw hs hkv
          go_wp2
          go_returns
          exact ⟨fun hw => absurd hw HN.out, fun _ => rfl, by (repeat' (first | (with_reducible exact Below.refl _ _) | (with_reducible assumption) | (with_reducible refine balloc ?_ _) | (with_reducible refine Below.drew ?_) | (with_reducible refine bset ?_ ?_ _) | (with_reducible refine bstep ?_ (by with_reducible assumption)) | (with_reducible refine bturn ?_ (by with_reducible assumption) ?_) | go_size))⟩
    by_cases hseg2 : 8 ≤ i ∧ i < 10
    · obtain ⟨g0, g1⟩ := hseg2
      obtain rfl : kv = 2 := by rw [hkv]; unfold kk; repeat (first | rw [if_pos (by omega)] | rw [if_neg (by omega)])
      have g4 : ((i : Int) == 4) = false := by simp; omega
      have g7 : ((i : Int) == 7) = false := by simp; omega
      have hlt : i < s.size := by omega
      have hbe := byteAt_eq s i hlt
      have HBE := Lib.hid hbe
      cases hd : isD (byteAt s i) with
      | true =>
        have hd2 := of_decide_eq_true hd
        have hm : c < 1000 := by
          have h1 := fold_bd s 8 (i - 8) (fun j hj => ok_dig (HO.out (8 + j) (by omega)) (by omega) (by omega))
          have h2 : 10 ^ (i - 8) ≤ 10 ^ 3 := Nat.pow_le_pow_right (by decide) (by omega)
          have h3 := HF.out.2.2
          rw [show i - 8 = i - 8 by omega] at h3
          omega
        have hok2 : okAt i (byteAt s i) = true := by unfold okAt; rw [if_neg (by omega)]; exact hd
        have HK := Lib.hid hok2
        rw [hbe] at hd2
        have x0 : (48 : Int) ≤ ((s[i].toNat : Nat) : Int) := by omega
        have x1 : ((s[i].toNat : Nat) : Int) ≤ 57 := by omega
        have z0 := hB.frozen 2
        have k1 : IntKind.u8.wrap (((s[i].toNat : Nat) : Int) - 48) = ((s[i].toNat : Nat) : Int) - 48 := IntWalk.u8_in _ (by omega)
        have k2 : IntKind.i64.wrap ((c : Int) * 10) = (c : Int) * 10 := IntWalk.i64_in _ (by omega)
        have k3 : IntKind.i64.wrap ((c : Int) * 10 + (((s[i].toNat : Nat) : Int) - 48)) = (c : Int) * 10 + (((s[i].toNat : Nat) : Int) - 48) := IntWalk.i64_in _ (by omega)
        have k4 : IntKind.i64.wrap (((s[i].toNat : Nat) : Int) - 48) = ((s[i].toNat : Nat) : Int) - 48 := IntWalk.i64_in _ (by omega)
        have hcast : (c : Int) * 10 + (((s[i].toNat : Nat) : Int) - 48) = ((c * 10 + ((byteAt s i).toNat - 48) : Nat) : Int) := by rw [hbe]; omega
        have HCA := Lib.hid hcast
        clear hd hd2 hbe hok2 hcast hs hkv
        go_wp2_with fail
        go_region
        clear k1 k2 k3 k4
        go_wp2
        go_roundw
        case rel => exact ⟨i + 1, a, b, c * 10 + ((byteAt s i).toNat - 48), _, by omega, by go_num, rfl, by unfold kk; repeat (first | rw [if_pos (by omega)] | rw [if_neg (by omega)]), by
          have := (hB.set_ 2 (.int .i64 ((c : Int) * 10 + (((s[i].toNat : Nat) : Int) - 48)))).drew
          rw [← HCA.out]
          exact this, by
          have h3 := HF.out
          refine ⟨?_, ?_, ?_⟩
          · first | exact h3.1.trans (by congr 1; omega) | (rw [show min (i + 1) 4 = min i 4 + 1 by omega, fold10, ← h3.1, show 0 + min i 4 = i by omega])
          · first | exact h3.2.1.trans (by congr 1; omega) | (rw [show min (i + 1 - 5) 2 = min (i - 5) 2 + 1 by omega, fold10, ← h3.2.1, show 5 + min (i - 5) 2 = i by omega])
          · first | exact h3.2.2.trans (by congr 1; omega) | (rw [show i + 1 - 8 = i - 8 + 1 by omega, fold10, ← h3.2.2, show 8 + (i - 8) = i by omega]), by
          intro j hj
          by_cases hji : j = i
          · rw [hji]; exact HK.out
          · exact HO.out j (by omega), by (repeat' (first | (with_reducible exact Below.refl _ _) | (with_reducible assumption) | (with_reducible refine balloc ?_ _) | (with_reducible refine Below.drew ?_) | (with_reducible refine bset ?_ ?_ _) | (with_reducible refine bstep ?_ (by with_reducible assumption)) | (with_reducible refine bturn ?_ (by with_reducible assumption) ?_) | go_size))⟩
        case measure => simp [intOf]; omega
      | false =>
        have hd2 := of_decide_eq_false hd
        have hnw : ¬ wf s := fun hw => by
          have := hw.2 i (by omega)
          rw [ok_not hd (by omega) (by omega)] at this
          cases this
        have HN := Lib.hid hnw
        rw [hbe] at hd2
        by_cases x0 : ((s[i].toNat : Nat) : Int) < 48
        · clear hd hd2 hbe hnw hs hkv
          go_wp2
          go_returns
          exact ⟨fun hw => absurd hw HN.out, fun _ => rfl, by (repeat' (first | (with_reducible exact Below.refl _ _) | (with_reducible assumption) | (with_reducible refine balloc ?_ _) | (with_reducible refine Below.drew ?_) | (with_reducible refine bset ?_ ?_ _) | (with_reducible refine bstep ?_ (by with_reducible assumption)) | (with_reducible refine bturn ?_ (by with_reducible assumption) ?_) | go_size))⟩
        · have x1 : (57 : Int) < ((s[i].toNat : Nat) : Int) := by omega
          clear hd hd2 hbe hnw hs hkv
          go_wp2
          go_returns
          exact ⟨fun hw => absurd hw HN.out, fun _ => rfl, by (repeat' (first | (with_reducible exact Below.refl _ _) | (with_reducible assumption) | (with_reducible refine balloc ?_ _) | (with_reducible refine Below.drew ?_) | (with_reducible refine bset ?_ ?_ _) | (with_reducible refine bstep ?_ (by with_reducible assumption)) | (with_reducible refine bturn ?_ (by with_reducible assumption) ?_) | go_size))⟩
    by_cases hsep4 : i = 4
    · subst hsep4
      obtain rfl : kv = 0 := by rw [hkv]; rfl
      have hlt : 4 < s.size := by omega
      have hbe := byteAt_eq s 4 hlt
      cases hd : (byteAt s 4 == 45) with
      | true =>
        have hok2 : okAt 4 (byteAt s 4) = true := by unfold okAt; rw [if_pos (by decide)]; exact hd
        have HK := Lib.hid hok2
        have x0 : ((s[4].toNat : Nat) : Int) = 45 := by rw [← hbe, beq_iff_eq.1 hd]; rfl
        clear hd hbe hok2 hs hkv
        go_wp2
        go_roundw
        case rel => exact ⟨4 + 1, a, b, c, _, by omega, by rfl, rfl, by rfl, hB, HF.out, by
          intro j hj
          by_cases hji : j = 4
          · rw [hji]; exact HK.out
          · exact HO.out j (by omega), hbl⟩
        case measure => decide
      | false =>
        have hnw : ¬ wf s := fun hw => by
          have := hw.2 4 (by omega)
          unfold okAt at this
          rw [if_pos (by decide), hd] at this
          cases this
        have HN := Lib.hid hnw
        have x0 : ¬ ((s[4].toNat : Nat) : Int) = 45 := fun h => by
          rw [← hbe] at h
          have : byteAt s 4 = 45 := UInt8.toNat_inj.1 (by rw [show (45 : UInt8).toNat = 45 from rfl]; omega)
          rw [this] at hd
          cases hd
        clear hd hbe hnw hs hkv
        go_wp2
        go_returns
        exact ⟨fun hw => absurd hw HN.out, fun _ => rfl, by (repeat' (first | (with_reducible exact Below.refl _ _) | (with_reducible assumption) | (with_reducible refine balloc ?_ _) | (with_reducible refine Below.drew ?_) | (with_reducible refine bset ?_ ?_ _) | (with_reducible refine bstep ?_ (by with_reducible assumption)) | (with_reducible refine bturn ?_ (by with_reducible assumption) ?_) | go_size))⟩
    by_cases hsep7 : i = 7
    · subst hsep7
      obtain rfl : kv = 1 := by rw [hkv]; rfl
      have hlt : 7 < s.size := by omega
      have hbe := byteAt_eq s 7 hlt
      cases hd : (byteAt s 7 == 45) with
      | true =>
        have hok2 : okAt 7 (byteAt s 7) = true := by unfold okAt; rw [if_pos (by decide)]; exact hd
        have HK := Lib.hid hok2
        have x0 : ((s[7].toNat : Nat) : Int) = 45 := by rw [← hbe, beq_iff_eq.1 hd]; rfl
        clear hd hbe hok2 hs hkv
        go_wp2
        go_roundw
        case rel => exact ⟨7 + 1, a, b, c, _, by omega, by rfl, rfl, by rfl, hB, HF.out, by
          intro j hj
          by_cases hji : j = 7
          · rw [hji]; exact HK.out
          · exact HO.out j (by omega), hbl⟩
        case measure => decide
      | false =>
        have hnw : ¬ wf s := fun hw => by
          have := hw.2 7 (by omega)
          unfold okAt at this
          rw [if_pos (by decide), hd] at this
          cases this
        have HN := Lib.hid hnw
        have x0 : ¬ ((s[7].toNat : Nat) : Int) = 45 := fun h => by
          rw [← hbe] at h
          have : byteAt s 7 = 45 := UInt8.toNat_inj.1 (by rw [show (45 : UInt8).toNat = 45 from rfl]; omega)
          rw [this] at hd
          cases hd
        clear hd hbe hnw hs hkv
        go_wp2
        go_returns
        exact ⟨fun hw => absurd hw HN.out, fun _ => rfl, by (repeat' (first | (with_reducible exact Below.refl _ _) | (with_reducible assumption) | (with_reducible refine balloc ?_ _) | (with_reducible refine Below.drew ?_) | (with_reducible refine bset ?_ ?_ _) | (with_reducible refine bstep ?_ (by with_reducible assumption)) | (with_reducible refine bturn ?_ (by with_reducible assumption) ?_) | go_size))⟩
    obtain rfl : i = 10 := by omega
    have hwf : wf s := ⟨HZ.out, HO.out⟩
    have HW := Lib.hid hwf
    clear hwf hs hkv
    go_wp2_with fail
    refine (rday_any (a : Int) (b : Int) (c : Int) _).mono ?_
    rintro e w2 ⟨rfl, hb2⟩
    go_wp2
    go_returns
    exact ⟨fun _ => by rw [← show (a : Int) = fold10 s 0 4 from congrArg _ HF.out.1, ← show (b : Int) = fold10 s 5 2 from congrArg _ HF.out.2.1, ← show (c : Int) = fold10 s 8 2 from congrArg _ HF.out.2.2]; rfl, fun h => absurd HW.out h, by (repeat' (first | (with_reducible exact Below.refl _ _) | (with_reducible assumption) | (with_reducible refine balloc ?_ _) | (with_reducible refine Below.drew ?_) | (with_reducible refine bset ?_ ?_ _) | (with_reducible refine bstep ?_ (by with_reducible assumption)) | (with_reducible refine bturn ?_ (by with_reducible assumption) ?_) | go_size))⟩
end Go.Proofs.YtambpkkllgppdaaGreatDoor.Days
