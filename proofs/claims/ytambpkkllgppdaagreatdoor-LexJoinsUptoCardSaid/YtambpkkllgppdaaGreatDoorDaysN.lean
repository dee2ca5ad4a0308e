/- The walks of the reference of package days: Number, padded, Text. -/
import Derived.Test.YtambpkkllgppdaaGreatDoorDaysC
import Derived.Test.YtambpkkllgppdaaGreatDoorDaysP
namespace Go.Proofs.YtambpkkllgppdaaGreatDoor.Days
open Go.RowKit
open Go.Lib hiding intOf

theorem pd_cons : ∀ (k n : Nat), pd (k + 1) n = UInt8.ofNat (48 + n / 10 ^ k % 10) :: pd k n
  | 0, n => by simp [pd]
  | k + 1, n => by
    rw [pd, pd_cons k (n / 10), List.cons_append, Nat.div_div_eq_div_mul, ← Nat.pow_succ']
    rfl

theorem digit_string (x : Int) (d : Nat) (hx : x = ((48 + d : Nat) : Int)) (hd : d < 10) (W : World) :
    (convert 47 9 (.slice (some ⟨W.heap.size, 0, none⟩) 1 1)).run Tryz.prog (W.alloc (.cells #[.int .u8 x] 5)) = .ok (.string ⟨#[UInt8.ofNat (48 + d)]⟩) (W.alloc (.cells #[.int .u8 x] 5)) := by
  subst hx
  have h := run_convert_bytes_back (P := Tryz.prog) (W.alloc (.cells #[.int .u8 ((48 + d : Nat) : Int)] 5)) 47 9 5 ⟨W.heap.size, 0, none⟩ 1 [UInt8.ofNat (48 + d)] Tryz.underlying47 Tryz.underlying5 Tryz.underlying9 (fun j hj => by
    obtain rfl : j = 0 := by simp at hj; omega
    show (W.alloc _).cell? _ = some (.int .u8 (((UInt8.ofNat (48 + d)).toNat : Nat) : Int))
    rw [dig_ofNat hd, Lib.add_plain]
    exact (Blk.new W _ _).cell 0)
  exact h

set_option maxHeartbeats 1000000 in
theorem number_any (N : Nat) (hN : N ≤ 9999) (w : World) :
    Calls Tryz.prog 115 #[.int .i64 (N : Int)] w fun e w' => (∃ j : Nat, 1 ≤ j ∧ j ≤ 4 ∧ N < 10 ^ j ∧ (j = 1 ∨ 10 ^ (j - 1) ≤ N) ∧ e = .returned (.string ⟨(pd j N).toArray⟩)) ∧ Below w.heap.size w w' := by
  have hcv := digit_string (48 + (N : Int) % 10) (N % 10) (by omega) (by omega)
  go_enter Tryz.func115, Tryz.ntmps115
  go_wp2
  go_loopw [0, 3] (fun v s wr => ∃ (k m : Nat) (S : ByteArray), k ≤ 3 ∧ v = .int .i64 (m : Int) ∧ s = .string S ∧ m = N / 10 ^ k ∧ ⟨(pd (k + 1) N).toArray⟩ = S ∧ (k = 0 ∨ 10 ^ k ≤ N) ∧ Below w.heap.size w wr) (fun v _ _ => (intOf v).toNat)
  case atStart => exact ⟨0, N, _, by omega, rfl, rfl, by simp, by apply ByteArray.ext; apply Array.toList_inj.1; simp [pd], .inl rfl, by (repeat' (first | (with_reducible exact Below.refl _ _) | (with_reducible assumption) | (with_reducible refine balloc ?_ _) | (with_reducible refine Below.drew ?_) | (with_reducible refine bset ?_ ?_ _) | (with_reducible refine bstep ?_ (by with_reducible assumption)) | (with_reducible refine bturn ?_ (by with_reducible assumption) ?_) | go_size))⟩
  case round =>
    obtain ⟨k, m, S, hk, rfl, rfl, hm, hS, hz, hbl⟩ := hrel
    have hsz : S.size = k + 1 := by rw [← hS]; exact pd_length _ _
    have HS := Lib.hid hS
    have HZ := Lib.hid hz
    have HK := Lib.hid hm
    have hm9 : m ≤ 9999 := by rw [hm]; exact Nat.le_trans (Nat.div_le_self _ _) hN
    have hs4 : S.size ≤ 4 := by omega
    have hge : 10 ≤ m → 10 ^ (k + 1) ≤ N ∧ k + 1 ≤ 3 := by
      intro h10
      have h1 : 10 * 10 ^ k ≤ N := by
        rw [hm] at h10
        have := Nat.mul_le_of_le_div _ _ _ h10
        omega
      refine ⟨by rw [Nat.pow_succ]; omega, ?_⟩
      apply Nat.le_of_not_lt
      intro h3
      obtain rfl : k = 3 := by omega
      omega
    have hlt10 : ¬ 10 ≤ m → N < 10 ^ (k + 1) := by
      intro h10
      rw [hm] at h10
      rw [Nat.pow_succ]
      have := Nat.div_add_mod N (10 ^ k)
      have h2 := Nat.mod_lt N (show 0 < 10 ^ k from Nat.pow_pos (by decide))
      have h3 : 10 ^ k * (N / 10 ^ k) ≤ 10 ^ k * 9 := Nat.mul_le_mul_left _ (by omega)
      omega
    have HG := Lib.hid hge
    have HL := Lib.hid hlt10
    clear hS hz hm hsz hge hlt10 hcv
    by_cases h10 : 10 ≤ m
    · have hcv := digit_string (48 + (m : Int) / 10 % 10) (m / 10 % 10) (by omega) (by omega)
      go_wp2
      go_roundw
      case rel => exact ⟨k + 1, m / 10, _, (HG.out h10).2, by go_num, rfl, by rw [HK.out, Nat.div_div_eq_div_mul, Nat.pow_succ], by
        rw [pd_cons, ← HS.out]
        have e : N / 10 ^ (k + 1) % 10 = m / 10 % 10 := by rw [HK.out, Nat.div_div_eq_div_mul, Nat.pow_succ]
        rw [e]
        apply ByteArray.ext
        apply Array.toList_inj.1
        simp, .inr (HG.out h10).1, by (repeat' (first | (with_reducible exact Below.refl _ _) | (with_reducible assumption) | (with_reducible refine balloc ?_ _) | (with_reducible refine Below.drew ?_) | (with_reducible refine bset ?_ ?_ _) | (with_reducible refine bstep ?_ (by with_reducible assumption)) | (with_reducible refine bturn ?_ (by with_reducible assumption) ?_) | go_size))⟩
      case measure => simp [intOf]; omega
    · go_wp2
      go_ret
      exact ⟨⟨k + 1, by omega, by omega, HL.out h10, by rw [Nat.add_sub_cancel]; have := HZ.out; omega, by rw [HS.out]; rfl⟩, by (repeat' (first | (with_reducible exact Below.refl _ _) | (with_reducible assumption) | (with_reducible refine balloc ?_ _) | (with_reducible refine Below.drew ?_) | (with_reducible refine bset ?_ ?_ _) | (with_reducible refine bstep ?_ (by with_reducible assumption)) | (with_reducible refine bturn ?_ (by with_reducible assumption) ?_) | go_size))⟩

theorem padded_any (N L : Nat) (hN : N < 10 ^ L) (h1 : 1 ≤ L) (h4 : L ≤ 4) (w : World) :
    Calls Tryz.prog 81 #[.int .i64 (N : Int), .int .i64 (L : Int)] w fun e w' => e = .returned (.string ⟨(pd L N).toArray⟩) ∧ Below w.heap.size w w' := by
  have hp4 : 10 ^ L ≤ 10 ^ 4 := Nat.pow_le_pow_right (by decide) h4
  have H := Lib.hid (number_any N (by omega))
  have HN := Lib.hid hN
  clear hp4 hN
  go_enter Tryz.func81, Tryz.ntmps81
  go_wp2_with fail
  refine (H.out _).mono ?_
  rintro e w1 ⟨⟨j, j1, j4, hj, hj2, rfl⟩, hb1⟩
  have hjL : j ≤ L := by
    rcases hj2 with h | h
    · omega
    · apply Nat.le_of_not_lt
      intro hlt
      have : 10 ^ L ≤ 10 ^ (j - 1) := Nat.pow_le_pow_right (by decide) (by omega)
      have := HN.out
      omega
  have HJ := Lib.hid hj
  clear hj hj2
  go_wp2
  go_loop [5] (fun s => ∃ (i : Nat) (S : ByteArray), j ≤ i ∧ i ≤ L ∧ s = .string S ∧ S.size = i ∧ ⟨(pd i N).toArray⟩ = S) (fun s => match s with | .string S => L - S.size | _ => 0)
  case atStart => exact ⟨j, _, Nat.le_refl _, hjL, rfl, pd_length _ _, rfl⟩
  case round =>
    obtain ⟨i, S, hi, hiL, rfl, hsz, hS⟩ := hrel
    have HS := Lib.hid hS
    clear hS
    have hs4 : S.size ≤ 4 := by omega
    by_cases hlt : S.size < L
    · have HZ := Lib.hid hsz
      clear hsz
      go_wp2
      go_round
      case rel => exact ⟨i + 1, _, by omega, by have := HZ.out; omega, rfl, by have := HZ.out; rw [ByteArray.size_append]; show 1 + S.size = i + 1; omega, by
        have hp : 10 ^ j ≤ 10 ^ i := Nat.pow_le_pow_right (by decide) hi
        have hj := HJ.out
        rw [pd_cons, ← HS.out, Nat.div_eq_of_lt (by omega)]
        apply ByteArray.ext
        apply Array.toList_inj.1
        simp⟩
      case measure =>
        show L - ((⟨#[48]⟩ : ByteArray) ++ S).size < L - S.size
        rw [ByteArray.size_append]
        show L - (1 + S.size) < L - S.size
        omega
    · obtain rfl : i = L := by omega
      clear hsz
      go_wp2
      go_ret
      exact ⟨by rw [HS.out]; rfl, by (repeat' (first | (with_reducible exact Below.refl _ _) | (with_reducible assumption) | (with_reducible refine balloc ?_ _) | (with_reducible refine Below.drew ?_) | (with_reducible refine bset ?_ ?_ _) | (with_reducible refine bstep ?_ (by with_reducible assumption)) | (with_reducible refine bturn ?_ (by with_reducible assumption) ?_) | go_size))⟩

theorem padded_lit {n k : Nat} {ni ki : Int} (hni : (n : Int) = ni) (hki : (k : Int) = ki) (h : n < 10 ^ k) (hk : 0 < k) (hk4 : k ≤ 4) {P : ByteArray} (hP : ⟨(pd k n).toArray⟩ = P) (w : World) :
    Calls Tryz.prog 81 #[.int .i64 ni, .int .i64 ki] w fun e w' => e = .returned (.string P) ∧ Below w.heap.size w w' := by
  subst hni; subst hki; subst hP
  exact padded_any n k h hk hk4 w

set_option maxHeartbeats 1000000 in
set_option maxRecDepth 100000 in
theorem rtext_bad (n : Int) (h : n < 0 ∨ 3652058 < n) (w : World) : Calls Tryz.prog 51 #[.int .i64 n] w fun e w' => e = .returned (.tuple #[.string ⟨#[]⟩, .int .i64 3]) ∧ Below w.heap.size w w' := by
  have H := Lib.hid (rdate_bad n h)
  clear h
  go_enter Tryz.func51, Tryz.ntmps51
  go_wp2_with fail
  refine (H.out _).mono ?_
  rintro e w1 ⟨rfl, hb⟩
  go_wp2
  go_returns
  exact ⟨rfl, by (repeat' (first | (with_reducible exact Below.refl _ _) | (with_reducible assumption) | (with_reducible refine balloc ?_ _) | (with_reducible refine Below.drew ?_) | (with_reducible refine bset ?_ ?_ _) | (with_reducible refine bstep ?_ (by with_reducible assumption)) | (with_reducible refine bturn ?_ (by with_reducible assumption) ?_) | go_size))⟩

set_option maxHeartbeats 1000000 in
set_option maxRecDepth 100000 in
theorem rtext_ok (n y : Int) (m : Nat) (h0 : 0 ≤ n) (h1 : n ≤ 3652058) (y0 : 1 ≤ y) (y1 : y ≤ 9999) (m1 : m < 12) (c0 : firstS y + cumS y m ≤ n) (c1 : n < firstS y + cumS y (m + 1)) (d0 : firstS y ≤ n) (d1 : n < firstS (y + 1)) (w : World) :
    Calls Tryz.prog 51 #[.int .i64 n] w fun e w' => e = .returned (.tuple #[.string ⟨(textL y.toNat (m + 1) (n - firstS y - cumS y m + 1).toNat).toArray⟩, .int .i64 0]) ∧ Below w.heap.size w w' := by
  have HD := Lib.hid (rdate_ok n y m h0 h1 y0 y1 m1 c0 c1 d0 d1)
  have hl := len_bd y (m + 1)
  have hcs := cum_succ y m
  have e0 : 1 ≤ n - firstS y - cumS y m + 1 := by omega
  have e1 : n - firstS y - cumS y m + 1 ≤ 31 := by omega
  generalize n - firstS y - cumS y m + 1 = d at *
  have HE : Hid (∀ A B C : ByteArray, ⟨(pd 4 y.toNat).toArray⟩ = A → ⟨(pd 2 (m + 1)).toArray⟩ = B → ⟨(pd 2 d.toNat).toArray⟩ = C → A ++ ⟨#[45]⟩ ++ B ++ ⟨#[45]⟩ ++ C = (⟨(textL y.toNat (m + 1) d.toNat).toArray⟩ : ByteArray)) := by
    rintro A B C rfl rfl rfl
    apply ByteArray.ext
    apply Array.toList_inj.1
    simp [textL]
  have HP1 := Lib.hid (fun w => padded_lit (n := y.toNat) (k := 4) (ni := y) (ki := 4) (by omega) rfl (by omega) (by omega) (by omega) rfl w)
  have HP2 := Lib.hid (fun w => padded_lit (n := m + 1) (k := 2) (ni := (m : Int) + 1) (ki := 2) (by omega) rfl (by omega) (by omega) (by omega) rfl w)
  have HP3 := Lib.hid (fun w => padded_lit (n := d.toNat) (k := 2) (ni := d) (ki := 2) (by omega) rfl (by omega) (by omega) (by omega) rfl w)
  have s1 : (⟨(pd 4 y.toNat).toArray⟩ : ByteArray).size = 4 := pd_length _ _
  have s2 : (⟨(pd 2 (m + 1)).toArray⟩ : ByteArray).size = 2 := pd_length _ _
  have s3 : (⟨(pd 2 d.toNat).toArray⟩ : ByteArray).size = 2 := pd_length _ _
  generalize hA : (⟨(pd 4 y.toNat).toArray⟩ : ByteArray) = A at *
  generalize hB : (⟨(pd 2 (m + 1)).toArray⟩ : ByteArray) = B at *
  generalize hC : (⟨(pd 2 d.toNat).toArray⟩ : ByteArray) = C at *
  have HF := Lib.hid (HE.out A B C rfl rfl rfl)
  clear HE hA hB hC hl hcs c0 c1 d0 d1
  go_enter Tryz.func51, Tryz.ntmps51
  go_wp2_with fail
  refine (HD.out _).mono ?_
  rintro e w1 ⟨rfl, hb1⟩
  go_wp2_with fail
  refine (HP1.out _).mono ?_
  rintro e w2 ⟨rfl, hb2⟩
  go_wp2_with fail
  refine (HP2.out _).mono ?_
  rintro e w3 ⟨rfl, hb3⟩
  go_wp2_with fail
  refine (HP3.out _).mono ?_
  rintro e w4 ⟨rfl, hb4⟩
  go_wp2
  go_returns
  exact ⟨by rw [← HF.out]; rfl, by (repeat' (first | (with_reducible exact Below.refl _ _) | (with_reducible assumption) | (with_reducible refine balloc ?_ _) | (with_reducible refine Below.drew ?_) | (with_reducible refine bset ?_ ?_ _) | (with_reducible refine bstep ?_ (by with_reducible assumption)) | (with_reducible refine bturn ?_ (by with_reducible assumption) ?_) | go_size))⟩
end Go.Proofs.YtambpkkllgppdaaGreatDoor.Days
