/- The walks of the reference's one at a name, a sign. -/
import Derived.Test.YtambpkkllgppdaaGreatDoorRLexD
import Derived.Deep.QuietTactic
import Derived.BigQuiet
namespace Go.Proofs.YtambpkkllgppdaaGreatDoor
open Go.RowKit

set_option maxHeartbeats 8000000 in
set_option maxRecDepth 100000 in
theorem rone_name_long (s : ByteArray) (p : Nat) (hp : p < s.size) (hs : s.size ≤ 4000000) (w : World) (hf : decide (48 ≤ (s[p]'hp).toNat ∧ (s[p]'hp).toNat ≤ 57) = false) (c34 : ((((s[p]'hp).toNat : Nat) : Int) == 34) = false) (c64 : ((((s[p]'hp).toNat : Nat) : Int) == 64) = false) (p1 : Nat) (hp1 : p1 ≤ s.size) (hpp : p ≤ p1) (w4 : (p : Int) + 1 = (p1 : Int)) (w5 : IntKind.i64.wrap (p1 : Int) = (p1 : Int)) (HN : Hid (∀ W, Calls Tryz.prog 23 #[.string (s.extract p p1)] W fun e w' => e = .returned (.bool true) ∧ W = w')) (m n : Nat) (hm : p + runS (lets ++ figs) (s.data.toList.drop p) = m) (hn : (m : Int) - (p : Int) = (n : Int)) (hnw : IntKind.i64.wrap (n : Int) = (n : Int)) (HX : Hid (∀ (k k1 : Nat) (hk : k < s.size) (_ : k + 1 = k1) (b : Bool) (_ : (lets ++ figs).contains (s[k]'hk) = b) W, Calls Tryz.prog 23 #[.string (⟨#[120]⟩ ++ s.extract k k1)] W fun e w' => e = .returned (.bool b) ∧ W = w')) (h32 : (32 : Int) < (n : Int)) :
    Calls Tryz.prog 19 #[.string s, .int .i64 (p : Int)] w fun e w' => e = .returned (.tuple #[.agg #[.int .i64 0, .int .i64 (p : Int), .string ⟨#[]⟩, .int .i64 0, .int .i64 0, .int .i64 0], .int .i64 0, .int .i64 5]) ∧ Below w.heap.size w w' := by
  have hb1 : Blk ((w.alloc (.cells #[.int .i64 0, .int .i64 0, .string ⟨#[]⟩, .int .i64 0, .int .i64 0, .int .i64 0] 38)).alloc (.cells #[.int .i64 0, .int .i64 (p : Int), .string ⟨#[]⟩, .int .i64 0, .int .i64 0, .int .i64 0] 38)) w.heap.size 38 #[.int .i64 0, .int .i64 0, .string ⟨#[]⟩, .int .i64 0, .int .i64 0, .int .i64 0] := (Blk.new w _ _).alloc _
  have hb2 : Blk ((w.alloc (.cells #[.int .i64 0, .int .i64 0, .string ⟨#[]⟩, .int .i64 0, .int .i64 0, .int .i64 0] 38)).alloc (.cells #[.int .i64 0, .int .i64 (p : Int), .string ⟨#[]⟩, .int .i64 0, .int .i64 0, .int .i64 0] 38)) (w.heap.size + 1) 38 #[.int .i64 0, .int .i64 (p : Int), .string ⟨#[]⟩, .int .i64 0, .int .i64 0, .int .i64 0] := Blk.new' _ _ _ (by simp)
  have HF := fig_lit (s[p]'hp).toNat false hf
  go_enter Tryz.func19, Tryz.ntmps19
  have HM := Lib.hid hm
  clear hm
  go_wp2_with fail
  refine (HF.out _).mono ?_
  rintro _ _ ⟨rfl, rfl⟩
  go_wp2_with fail
  refine (HN.out _).mono ?_
  rintro _ _ ⟨rfl, rfl⟩
  go_wp2_with fail
  go_loop [8] (fun i => ∃ k : Nat, p ≤ k ∧ k ≤ s.size ∧ i = .int .i64 (k : Int) ∧ Hid (k + runS (lets ++ figs) (s.data.toList.drop k) = m)) (fun i => s.size - (intOf i).toNat)
  case atStart => exact ⟨p, Nat.le_refl _, by omega, rfl, HM⟩
  case round =>
    obtain ⟨k, hpk, hk, rfl, HK⟩ := hrel
    by_cases hlt : k < s.size
    · have hst := HK.out
      rw [runS_at (lets ++ figs) s k hlt] at hst
      obtain ⟨k1, hk1⟩ : ∃ k1, k + 1 = k1 := ⟨_, rfl⟩
      have v4 : (k : Int) + 1 = (k1 : Int) := by omega
      have v5 : IntKind.i64.wrap (k1 : Int) = (k1 : Int) := IntWalk.i64_in _ (by omega)
      have v6 : (k1 : Int) ≤ (s.size : Int) := by omega
      have hkk : k ≤ k1 := by omega
      have hk1s : k1 ≤ s.size := by omega
      have hes : 1 + (s.extract k k1).size ≤ 9223372036854775807 := by rw [ByteArray.size_extract]; omega
      cases hf4 : (lets ++ figs).contains (s[k]'hlt) with
      | true =>
        rw [hf4, if_pos rfl] at hst
        rw [hk1] at hst
        have HK2 : Hid (k1 + runS (lets ++ figs) (s.data.toList.drop k1) = m) := Lib.hid (by omega)
        have HQ : Hid (p ≤ k1 ∧ k1 ≤ s.size ∧ k < k1) := Lib.hid ⟨by omega, by omega, by omega⟩
        have HX2 := Lib.hid (HX.out k k1 hlt hk1 true hf4)
        clear hst hf4 hk1
        obtain ⟨e, he⟩ : ∃ e, s.extract k k1 = e := ⟨_, rfl⟩
        rw [he] at HX2 hes
        go_wp2_with fail
        refine (HX2.out _).mono ?_
        rintro _ _ ⟨rfl, rfl⟩
        go_wp2_with fail
        go_round
        case rel => exact ⟨k1, HQ.out.1, HQ.out.2.1, by go_num, HK2⟩
        case measure => have := HQ.out; simp [intOf]; omega
      | false =>
        rw [hf4, if_neg (by simp), Nat.add_zero] at hst
        have HX2 := Lib.hid (HX.out k k1 hlt hk1 false hf4)
        subst hst
        clear hf4 hk1
        obtain ⟨e, he⟩ : ∃ e, s.extract k k1 = e := ⟨_, rfl⟩
        rw [he] at HX2 hes
        go_wp2_with fail
        refine (HX2.out _).mono ?_
        rintro _ _ ⟨rfl, rfl⟩
        clear he hes HX2 HM
        go_wp2_with (first | (refine wpList_load_blk hb2 rfl _ _ (by rfl) (by rfl) (by (repeat (first | (with_reducible exact hb2) | (with_reducible refine Blk.alloc ?_ _) | (with_reducible refine Blk.drew ?_) | (with_reducible refine Blk.far ?_ (by first | (simp; done) | (simp; omega)) _) | (with_reducible refine Blk.turn ?_ (by with_reducible assumption) (by omega))))) _ Tryz.underlying38 rfl (by kernel_rfl) ?_) | (refine wpList_store_blk hb1 rfl _ _ _ (by rfl) _ (by rfl) (by rfl) (by (repeat (first | (with_reducible exact hb1) | (with_reducible refine Blk.alloc ?_ _) | (with_reducible refine Blk.drew ?_) | (with_reducible refine Blk.far ?_ (by first | (simp; done) | (simp; omega)) _) | (with_reducible refine Blk.turn ?_ (by with_reducible assumption) (by omega))))) (by rfl) (by kernel_rfl) (by simp [Value.oneCell']) ?_; intro wt hb1n ht))
        refine ret_blk3 rfl hb1n rfl Tryz.underlying38 rfl (by kernel_rfl) rfl ?_
        exact ⟨rfl, by (repeat' (first | (with_reducible exact Below.refl _ _) | (with_reducible assumption) | (with_reducible refine balloc ?_ _) | (with_reducible refine Below.drew ?_) | (with_reducible refine bset ?_ ?_ _) | (with_reducible refine bstep ?_ (by with_reducible assumption)) | (with_reducible refine bturn ?_ (by with_reducible assumption) ?_) | go_size))⟩
    · have hst := HK.out
      rw [runS_end (lets ++ figs) s k hlt, Nat.add_zero] at hst
      subst hst
      clear HM
      go_wp2_with (first | (refine wpList_load_blk hb2 rfl _ _ (by rfl) (by rfl) (by (repeat (first | (with_reducible exact hb2) | (with_reducible refine Blk.alloc ?_ _) | (with_reducible refine Blk.drew ?_) | (with_reducible refine Blk.far ?_ (by first | (simp; done) | (simp; omega)) _) | (with_reducible refine Blk.turn ?_ (by with_reducible assumption) (by omega))))) _ Tryz.underlying38 rfl (by kernel_rfl) ?_) | (refine wpList_store_blk hb1 rfl _ _ _ (by rfl) _ (by rfl) (by rfl) (by (repeat (first | (with_reducible exact hb1) | (with_reducible refine Blk.alloc ?_ _) | (with_reducible refine Blk.drew ?_) | (with_reducible refine Blk.far ?_ (by first | (simp; done) | (simp; omega)) _) | (with_reducible refine Blk.turn ?_ (by with_reducible assumption) (by omega))))) (by rfl) (by kernel_rfl) (by simp [Value.oneCell']) ?_; intro wt hb1n ht))
      refine ret_blk3 rfl hb1n rfl Tryz.underlying38 rfl (by kernel_rfl) rfl ?_
      exact ⟨rfl, by (repeat' (first | (with_reducible exact Below.refl _ _) | (with_reducible assumption) | (with_reducible refine balloc ?_ _) | (with_reducible refine Below.drew ?_) | (with_reducible refine bset ?_ ?_ _) | (with_reducible refine bstep ?_ (by with_reducible assumption)) | (with_reducible refine bturn ?_ (by with_reducible assumption) ?_) | go_size))⟩

set_option maxHeartbeats 8000000 in
set_option maxRecDepth 100000 in
theorem rone_name_ok (s : ByteArray) (p : Nat) (hp : p < s.size) (hs : s.size ≤ 4000000) (w : World) (hf : decide (48 ≤ (s[p]'hp).toNat ∧ (s[p]'hp).toNat ≤ 57) = false) (c34 : ((((s[p]'hp).toNat : Nat) : Int) == 34) = false) (c64 : ((((s[p]'hp).toNat : Nat) : Int) == 64) = false) (p1 : Nat) (hp1 : p1 ≤ s.size) (hpp : p ≤ p1) (w4 : (p : Int) + 1 = (p1 : Int)) (w5 : IntKind.i64.wrap (p1 : Int) = (p1 : Int)) (HN : Hid (∀ W, Calls Tryz.prog 23 #[.string (s.extract p p1)] W fun e w' => e = .returned (.bool true) ∧ W = w')) (m n : Nat) (hm : p + runS (lets ++ figs) (s.data.toList.drop p) = m) (hn : (m : Int) - (p : Int) = (n : Int)) (hnw : IntKind.i64.wrap (n : Int) = (n : Int)) (HX : Hid (∀ (k k1 : Nat) (hk : k < s.size) (_ : k + 1 = k1) (b : Bool) (_ : (lets ++ figs).contains (s[k]'hk) = b) W, Calls Tryz.prog 23 #[.string (⟨#[120]⟩ ++ s.extract k k1)] W fun e w' => e = .returned (.bool b) ∧ W = w')) (h32 : ¬ (32 : Int) < (n : Int)) :
    Calls Tryz.prog 19 #[.string s, .int .i64 (p : Int)] w fun e w' => e = .returned (.tuple #[.agg #[.int .i64 4, .int .i64 (p : Int), .string (s.extract p m), .int .i64 0, .int .i64 0, .int .i64 0], .int .i64 (m : Int), .int .i64 0]) ∧ Below w.heap.size w w' := by
  have hb1 : Blk ((w.alloc (.cells #[.int .i64 0, .int .i64 0, .string ⟨#[]⟩, .int .i64 0, .int .i64 0, .int .i64 0] 38)).alloc (.cells #[.int .i64 0, .int .i64 (p : Int), .string ⟨#[]⟩, .int .i64 0, .int .i64 0, .int .i64 0] 38)) w.heap.size 38 #[.int .i64 0, .int .i64 0, .string ⟨#[]⟩, .int .i64 0, .int .i64 0, .int .i64 0] := (Blk.new w _ _).alloc _
  have hb2 : Blk ((w.alloc (.cells #[.int .i64 0, .int .i64 0, .string ⟨#[]⟩, .int .i64 0, .int .i64 0, .int .i64 0] 38)).alloc (.cells #[.int .i64 0, .int .i64 (p : Int), .string ⟨#[]⟩, .int .i64 0, .int .i64 0, .int .i64 0] 38)) (w.heap.size + 1) 38 #[.int .i64 0, .int .i64 (p : Int), .string ⟨#[]⟩, .int .i64 0, .int .i64 0, .int .i64 0] := Blk.new' _ _ _ (by simp)
  have HF := fig_lit (s[p]'hp).toNat false hf
  go_enter Tryz.func19, Tryz.ntmps19
  have HM := Lib.hid hm
  clear hm
  go_wp2_with fail
  refine (HF.out _).mono ?_
  rintro _ _ ⟨rfl, rfl⟩
  go_wp2_with fail
  refine (HN.out _).mono ?_
  rintro _ _ ⟨rfl, rfl⟩
  go_wp2_with fail
  go_loop [8] (fun i => ∃ k : Nat, p ≤ k ∧ k ≤ s.size ∧ i = .int .i64 (k : Int) ∧ Hid (k + runS (lets ++ figs) (s.data.toList.drop k) = m)) (fun i => s.size - (intOf i).toNat)
  case atStart => exact ⟨p, Nat.le_refl _, by omega, rfl, HM⟩
  case round =>
    obtain ⟨k, hpk, hk, rfl, HK⟩ := hrel
    by_cases hlt : k < s.size
    · have hst := HK.out
      rw [runS_at (lets ++ figs) s k hlt] at hst
      obtain ⟨k1, hk1⟩ : ∃ k1, k + 1 = k1 := ⟨_, rfl⟩
      have v4 : (k : Int) + 1 = (k1 : Int) := by omega
      have v5 : IntKind.i64.wrap (k1 : Int) = (k1 : Int) := IntWalk.i64_in _ (by omega)
      have v6 : (k1 : Int) ≤ (s.size : Int) := by omega
      have hkk : k ≤ k1 := by omega
      have hk1s : k1 ≤ s.size := by omega
      have hes : 1 + (s.extract k k1).size ≤ 9223372036854775807 := by rw [ByteArray.size_extract]; omega
      cases hf4 : (lets ++ figs).contains (s[k]'hlt) with
      | true =>
        rw [hf4, if_pos rfl] at hst
        rw [hk1] at hst
        have HK2 : Hid (k1 + runS (lets ++ figs) (s.data.toList.drop k1) = m) := Lib.hid (by omega)
        have HQ : Hid (p ≤ k1 ∧ k1 ≤ s.size ∧ k < k1) := Lib.hid ⟨by omega, by omega, by omega⟩
        have HX2 := Lib.hid (HX.out k k1 hlt hk1 true hf4)
        clear hst hf4 hk1
        obtain ⟨e, he⟩ : ∃ e, s.extract k k1 = e := ⟨_, rfl⟩
        rw [he] at HX2 hes
        go_wp2_with fail
        refine (HX2.out _).mono ?_
        rintro _ _ ⟨rfl, rfl⟩
        go_wp2_with fail
        go_round
        case rel => exact ⟨k1, HQ.out.1, HQ.out.2.1, by go_num, HK2⟩
        case measure => have := HQ.out; simp [intOf]; omega
      | false =>
        rw [hf4, if_neg (by simp), Nat.add_zero] at hst
        have HX2 := Lib.hid (HX.out k k1 hlt hk1 false hf4)
        subst hst
        clear hf4 hk1
        obtain ⟨e, he⟩ : ∃ e, s.extract k k1 = e := ⟨_, rfl⟩
        rw [he] at HX2 hes
        go_wp2_with fail
        refine (HX2.out _).mono ?_
        rintro _ _ ⟨rfl, rfl⟩
        clear he hes HX2 HM
        have q1 : (p : Int) ≤ (k : Int) := by omega
        have q2 : (k : Int) ≤ (s.size : Int) := by omega
        go_wp2_with fail
        have hbl : Below w.heap.size w ((w.alloc (.cells #[.int .i64 0, .int .i64 0, .string ⟨#[]⟩, .int .i64 0, .int .i64 0, .int .i64 0] 38)).alloc (.cells #[.int .i64 0, .int .i64 (p : Int), .string ⟨#[]⟩, .int .i64 0, .int .i64 0, .int .i64 0] 38)) := by (repeat' (first | (with_reducible exact Below.refl _ _) | (with_reducible assumption) | (with_reducible refine balloc ?_ _) | (with_reducible refine Below.drew ?_) | (with_reducible refine bset ?_ ?_ _) | (with_reducible refine bstep ?_ (by with_reducible assumption)) | (with_reducible refine bturn ?_ (by with_reducible assumption) ?_) | go_size))
        generalize ((w.alloc (.cells #[.int .i64 0, .int .i64 0, .string ⟨#[]⟩, .int .i64 0, .int .i64 0, .int .i64 0] 38)).alloc (.cells #[.int .i64 0, .int .i64 (p : Int), .string ⟨#[]⟩, .int .i64 0, .int .i64 0, .int .i64 0] 38)) = W0 at hb1 hb2 hbl ⊢
        have hlt := hb2.lt; have hllt := lts hlt; have qt0 := hb2.cell 0; have qt1 := hb2.cell 1; have qt2 := hb2.cell 2; have qt3 := hb2.cell 3; have qt4 := hb2.cell 4; have qt5 := hb2.cell 5; simp at qt0 qt1 qt2 qt3 qt4 qt5; have zt0 := hb2.frozen 0; have zt1 := hb2.frozen 1; have zt2 := hb2.frozen 2; have zt3 := hb2.frozen 3; have zt4 := hb2.frozen 4; have zt5 := hb2.frozen 5; have Hhb2 := Lib.hid hb2; clear hb2
        go_region
        have k2 : Blk ((((W0.setCell ⟨w.heap.size + 1, 0, none⟩ (.int .i64 4)).setCell ⟨w.heap.size + 1, 2, none⟩ (.string (s.extract p k)))).drew) (w.heap.size + 1) 38 #[.int .i64 4, .int .i64 (p : Int), .string (s.extract p k), .int .i64 0, .int .i64 0, .int .i64 0] := ((Hhb2.out.setL 0 _ _ rfl).setL 2 _ _ rfl).drew
        have k1' : Blk ((((W0.setCell ⟨w.heap.size + 1, 0, none⟩ (.int .i64 4)).setCell ⟨w.heap.size + 1, 2, none⟩ (.string (s.extract p k)))).drew) w.heap.size 38 #[.int .i64 0, .int .i64 0, .string ⟨#[]⟩, .int .i64 0, .int .i64 0, .int .i64 0] := ((hb1.far (by simp) _).far (by simp) _).drew
        clear hlt qt0 qt1 qt2 qt3 qt4 qt5 zt0 zt1 zt2 zt3 zt4 zt5
        go_wp2_with (first | (refine wpList_load_blk k2 rfl _ _ (by rfl) (by rfl) (by (repeat (first | (with_reducible exact k2) | (with_reducible refine Blk.alloc ?_ _) | (with_reducible refine Blk.drew ?_) | (with_reducible refine Blk.far ?_ (by first | (simp; done) | (simp; omega)) _) | (with_reducible refine Blk.turn ?_ (by with_reducible assumption) (by omega))))) _ Tryz.underlying38 rfl (by kernel_rfl) ?_) | (refine wpList_store_blk k1' rfl _ _ _ (by rfl) _ (by rfl) (by rfl) (by (repeat (first | (with_reducible exact k1') | (with_reducible refine Blk.alloc ?_ _) | (with_reducible refine Blk.drew ?_) | (with_reducible refine Blk.far ?_ (by first | (simp; done) | (simp; omega)) _) | (with_reducible refine Blk.turn ?_ (by with_reducible assumption) (by omega))))) (by rfl) (by kernel_rfl) (by simp [Value.oneCell']) ?_; intro wt k1'n ht))
        refine ret_blk3 rfl k1'n rfl Tryz.underlying38 rfl (by kernel_rfl) rfl ?_
        exact ⟨rfl, by (repeat' (first | (with_reducible exact Below.refl _ _) | (with_reducible assumption) | (with_reducible refine balloc ?_ _) | (with_reducible refine Below.drew ?_) | (with_reducible refine bset ?_ ?_ _) | (with_reducible refine bstep ?_ (by with_reducible assumption)) | (with_reducible refine bturn ?_ (by with_reducible assumption) ?_) | go_size))⟩
    · have hst := HK.out
      rw [runS_end (lets ++ figs) s k hlt, Nat.add_zero] at hst
      subst hst
      clear HM
      have q1 : (p : Int) ≤ (k : Int) := by omega
      have q2 : (k : Int) ≤ (s.size : Int) := by omega
      go_wp2_with fail
      have hbl : Below w.heap.size w ((w.alloc (.cells #[.int .i64 0, .int .i64 0, .string ⟨#[]⟩, .int .i64 0, .int .i64 0, .int .i64 0] 38)).alloc (.cells #[.int .i64 0, .int .i64 (p : Int), .string ⟨#[]⟩, .int .i64 0, .int .i64 0, .int .i64 0] 38)) := by (repeat' (first | (with_reducible exact Below.refl _ _) | (with_reducible assumption) | (with_reducible refine balloc ?_ _) | (with_reducible refine Below.drew ?_) | (with_reducible refine bset ?_ ?_ _) | (with_reducible refine bstep ?_ (by with_reducible assumption)) | (with_reducible refine bturn ?_ (by with_reducible assumption) ?_) | go_size))
      generalize ((w.alloc (.cells #[.int .i64 0, .int .i64 0, .string ⟨#[]⟩, .int .i64 0, .int .i64 0, .int .i64 0] 38)).alloc (.cells #[.int .i64 0, .int .i64 (p : Int), .string ⟨#[]⟩, .int .i64 0, .int .i64 0, .int .i64 0] 38)) = W0 at hb1 hb2 hbl ⊢
      have hlt := hb2.lt; have hllt := lts hlt; have qt0 := hb2.cell 0; have qt1 := hb2.cell 1; have qt2 := hb2.cell 2; have qt3 := hb2.cell 3; have qt4 := hb2.cell 4; have qt5 := hb2.cell 5; simp at qt0 qt1 qt2 qt3 qt4 qt5; have zt0 := hb2.frozen 0; have zt1 := hb2.frozen 1; have zt2 := hb2.frozen 2; have zt3 := hb2.frozen 3; have zt4 := hb2.frozen 4; have zt5 := hb2.frozen 5; have Hhb2 := Lib.hid hb2; clear hb2
      go_region
      have k2 : Blk ((((W0.setCell ⟨w.heap.size + 1, 0, none⟩ (.int .i64 4)).setCell ⟨w.heap.size + 1, 2, none⟩ (.string (s.extract p k)))).drew) (w.heap.size + 1) 38 #[.int .i64 4, .int .i64 (p : Int), .string (s.extract p k), .int .i64 0, .int .i64 0, .int .i64 0] := ((Hhb2.out.setL 0 _ _ rfl).setL 2 _ _ rfl).drew
      have k1' : Blk ((((W0.setCell ⟨w.heap.size + 1, 0, none⟩ (.int .i64 4)).setCell ⟨w.heap.size + 1, 2, none⟩ (.string (s.extract p k)))).drew) w.heap.size 38 #[.int .i64 0, .int .i64 0, .string ⟨#[]⟩, .int .i64 0, .int .i64 0, .int .i64 0] := ((hb1.far (by simp) _).far (by simp) _).drew
      clear hlt qt0 qt1 qt2 qt3 qt4 qt5 zt0 zt1 zt2 zt3 zt4 zt5
      go_wp2_with (first | (refine wpList_load_blk k2 rfl _ _ (by rfl) (by rfl) (by (repeat (first | (with_reducible exact k2) | (with_reducible refine Blk.alloc ?_ _) | (with_reducible refine Blk.drew ?_) | (with_reducible refine Blk.far ?_ (by first | (simp; done) | (simp; omega)) _) | (with_reducible refine Blk.turn ?_ (by with_reducible assumption) (by omega))))) _ Tryz.underlying38 rfl (by kernel_rfl) ?_) | (refine wpList_store_blk k1' rfl _ _ _ (by rfl) _ (by rfl) (by rfl) (by (repeat (first | (with_reducible exact k1') | (with_reducible refine Blk.alloc ?_ _) | (with_reducible refine Blk.drew ?_) | (with_reducible refine Blk.far ?_ (by first | (simp; done) | (simp; omega)) _) | (with_reducible refine Blk.turn ?_ (by with_reducible assumption) (by omega))))) (by rfl) (by kernel_rfl) (by simp [Value.oneCell']) ?_; intro wt k1'n ht))
      refine ret_blk3 rfl k1'n rfl Tryz.underlying38 rfl (by kernel_rfl) rfl ?_
      exact ⟨rfl, by (repeat' (first | (with_reducible exact Below.refl _ _) | (with_reducible assumption) | (with_reducible refine balloc ?_ _) | (with_reducible refine Below.drew ?_) | (with_reducible refine bset ?_ ?_ _) | (with_reducible refine bstep ?_ (by with_reducible assumption)) | (with_reducible refine bturn ?_ (by with_reducible assumption) ?_) | go_size))⟩

theorem sign_len : ∀ q ∈ signsL, q.length ≤ 2 := by decide
theorem pre_take (q l : Bs) : q.isPrefixOf l = (l.take q.length == q) := by
  rw [Bool.eq_iff_iff, List.isPrefixOf_iff_prefix, beq_iff_eq, List.prefix_iff_eq_take]
  exact ⟨fun h => h.symm, fun h => h.symm⟩
set_option maxHeartbeats 8000000 in
set_option maxRecDepth 100000 in
theorem rone_sign (s : ByteArray) (p : Nat) (hp : p < s.size) (hs : s.size ≤ 4000000) (w : World) (hf : decide (48 ≤ (s[p]'hp).toNat ∧ (s[p]'hp).toNat ≤ 57) = false) (c34 : ((((s[p]'hp).toNat : Nat) : Int) == 34) = false) (c64 : ((((s[p]'hp).toNat : Nat) : Int) == 64) = false) (p1 : Nat) (hp1 : p1 ≤ s.size) (hpp : p ≤ p1) (w4 : (p : Int) + 1 = (p1 : Int)) (w5 : IntKind.i64.wrap (p1 : Int) = (p1 : Int)) (HN : Hid (∀ W, Calls Tryz.prog 23 #[.string (s.extract p p1)] W fun e w' => e = .returned (.bool false) ∧ W = w')) (N : Nx) (hN : Hid (signS (s.data.toList.drop p) = N)) (ev : Int) (hev : Hid (N.e = 0 → ev = ((p + N.n : Nat) : Int))) (hev0 : Hid (¬ N.e = 0 → ev = 0)) :
    Calls Tryz.prog 19 #[.string s, .int .i64 (p : Int)] w fun e w' => e = .returned (.tuple #[.agg #[.int .i64 N.t.k, .int .i64 (p : Int), .string (bs N.t.t), .int .i64 N.t.n, .int .i64 N.t.s, .int .i64 N.t.m], .int .i64 ev, .int .i64 N.e]) ∧ Below w.heap.size w w' := by
  have hb1 : Blk ((w.alloc (.cells #[.int .i64 0, .int .i64 0, .string ⟨#[]⟩, .int .i64 0, .int .i64 0, .int .i64 0] 38)).alloc (.cells #[.int .i64 0, .int .i64 (p : Int), .string ⟨#[]⟩, .int .i64 0, .int .i64 0, .int .i64 0] 38)) w.heap.size 38 #[.int .i64 0, .int .i64 0, .string ⟨#[]⟩, .int .i64 0, .int .i64 0, .int .i64 0] := (Blk.new w _ _).alloc _
  have hb2 : Blk ((w.alloc (.cells #[.int .i64 0, .int .i64 0, .string ⟨#[]⟩, .int .i64 0, .int .i64 0, .int .i64 0] 38)).alloc (.cells #[.int .i64 0, .int .i64 (p : Int), .string ⟨#[]⟩, .int .i64 0, .int .i64 0, .int .i64 0] 38)) (w.heap.size + 1) 38 #[.int .i64 0, .int .i64 (p : Int), .string ⟨#[]⟩, .int .i64 0, .int .i64 0, .int .i64 0] := Blk.new' _ _ _ (by simp)
  have HF := fig_lit (s[p]'hp).toNat false hf
  obtain ⟨l, hl⟩ : ∃ l, s.data.toList.drop p = l := ⟨_, rfl⟩
  have hN2 := hN.out
  rw [hl] at hN2
  obtain ⟨f, hf⟩ : ∃ f, signsL.find? (fun g => g.isPrefixOf l) = f := ⟨_, rfl⟩
  have hR1 : ∀ q, f = some q → N = ⟨⟨5, 0, q, 0, 0, 0⟩, q.length, 0⟩ := fun q h => by rw [← hN2]; unfold signS; rw [hf, h]
  have hR0 : f = none → N = bad := fun h => by rw [← hN2]; unfold signS; rw [hf, h]
  have HR := Lib.hid (And.intro hR1 hR0)
  have HFd := Lib.hid hf
  have Hl := Lib.hid hl
  clear hR1 hR0 hf hl hN2
  obtain ⟨a, ha⟩ : ∃ a : Nat, s.size - p = a := ⟨_, rfl⟩
  have ha1 : (s.size : Int) - (p : Int) = (a : Int) := by omega
  have ha2 : IntKind.i64.wrap (a : Int) = (a : Int) := IntWalk.i64_in _ (by omega)
  have HA := Lib.hid ha
  clear ha
  go_enter Tryz.func19, Tryz.ntmps19
  go_wp2_with fail
  refine (HF.out _).mono ?_
  rintro _ _ ⟨rfl, rfl⟩
  go_wp2_with fail
  refine (HN.out _).mono ?_
  rintro _ _ ⟨rfl, rfl⟩
  go_wp2_with fail
  go_loopw [18] (fun i wr => ∃ k : Nat, k ≤ 16 ∧ i = .int .i64 (k : Int) ∧ SS wr (w.heap.size + 1 + 1) signsL ∧ Blk wr w.heap.size 38 #[.int .i64 0, .int .i64 0, .string ⟨#[]⟩, .int .i64 0, .int .i64 0, .int .i64 0] ∧ Blk wr (w.heap.size + 1) 38 #[.int .i64 0, .int .i64 (p : Int), .string ⟨#[]⟩, .int .i64 0, .int .i64 0, .int .i64 0] ∧ w.heap.size + 1 + 1 < wr.heap.size ∧ Below w.heap.size w wr ∧ Hid ((signsL.drop k).find? (fun g => g.isPrefixOf l) = f)) (fun i _ => 16 - (intOf i).toNat)
  case atStart => exact ⟨0, by omega, rfl, SS.of_blk (Blk.new' _ _ _ (by simp)), hb1.alloc _, hb2.alloc _, by simp, by (repeat' (first | (with_reducible exact Below.refl _ _) | (with_reducible assumption) | (with_reducible refine balloc ?_ _) | (with_reducible refine Below.drew ?_) | (with_reducible refine bset ?_ ?_ _) | (with_reducible refine bstep ?_ (by with_reducible assumption)) | (with_reducible refine bturn ?_ (by with_reducible assumption) ?_) | go_size)), HFd⟩
  case round =>
    obtain ⟨k, hk, rfl, hS, hb1, hb2, hlg, hbr, HQ⟩ := hrel
    by_cases hlt : k < 16
    · obtain ⟨q, hq⟩ : ∃ q, signsL[k]? = some q := ⟨signsL[k]'hlt, List.getElem?_eq_getElem hlt⟩
      have hc := hS k q hq
      obtain ⟨n, hqn⟩ : ∃ n, q.length = n := ⟨_, rfl⟩
      have hn3 : n ≤ 2 := by rw [← hqn]; exact sign_len q (List.mem_of_getElem? hq)
      obtain ⟨Q, hQ⟩ : ∃ Q, bs q = Q := ⟨_, rfl⟩
      have hQn : Q.size = n := by rw [← hQ, bs_size, hqn]
      rw [hQ] at hc
      have Hq := Lib.hid hq
      have HS := Lib.hid hS
      have HB1 := Lib.hid hb1
      have HB2 := Lib.hid hb2
      have hllg := lts hlg
      have hQi : (Q.size : Int) = (n : Int) := by omega
      clear hS hq hb1 hb2
      by_cases hge : n ≤ a
      · have hgi : (n : Int) ≤ (a : Int) := by omega
        obtain ⟨pn, hpn⟩ : ∃ pn, p + n = pn := ⟨_, rfl⟩
        have x1 : (p : Int) + (n : Int) = (pn : Int) := by omega
        have x2 : IntKind.i64.wrap (pn : Int) = (pn : Int) := IntWalk.i64_in _ (by omega)
        have x3 : p ≤ pn := by omega
        have x4 : pn ≤ s.size := by have := HA.out; omega
        have x5 : (pn : Int) ≤ (s.size : Int) := by omega
        have x6 : (p : Int) ≤ (pn : Int) := by omega
        obtain ⟨e, he⟩ : ∃ e, s.extract p pn = e := ⟨_, rfl⟩
        have hE : (e.toList == Q.toList) = q.isPrefixOf l := by
          rw [Lib.toList_data, Lib.toList_data, ← he, ← hQ, ← Hl.out]
          rw [ByteArray.data_extract, Array.toList_extract, List.extract_eq_take_drop, show pn - p = q.length by omega]
          exact (pre_take q _).symm
        cases hb : q.isPrefixOf l with
        | true =>
          rw [hb] at hE
          have hfq : f = some q := by rw [← HQ.out]; exact find_stop Hq.out hb
          have hR := HR.out.1 q hfq
          have HR2 := Lib.hid hR
          have Hqn := Lib.hid hqn
          have HQQ := Lib.hid hQ
          have Hpn := Lib.hid hpn
          clear hb hfq hR hqn hQ hpn
          go_wp2_with fail
          go_quiet (fail)
          go_wp2_with fail
          have hb1 := HB1.out.drewN nq
          have hb2 := HB2.out.drewN nq
          have hc2 : (wr.drewN nq).cell? ⟨w.heap.size + 1 + 1, k, none⟩ = some (.string Q) := hc
          have hlg2 : w.heap.size + 1 + 1 < (wr.drewN nq).heap.size := hlg
          have hbl := bdrewN hbr nq
          clear HB1 HB2 hc hlg hllg HS hbr
          generalize wr.drewN nq = W0 at hb1 hb2 hc2 hlg2 hbl ⊢
          have hllg := lts hlg2
          have hlt := hb2.lt; have hllt := lts hlt; have qt0 := hb2.cell 0; have qt1 := hb2.cell 1; have qt2 := hb2.cell 2; have qt3 := hb2.cell 3; have qt4 := hb2.cell 4; have qt5 := hb2.cell 5; simp at qt0 qt1 qt2 qt3 qt4 qt5; have zt0 := hb2.frozen 0; have zt1 := hb2.frozen 1; have zt2 := hb2.frozen 2; have zt3 := hb2.frozen 3; have zt4 := hb2.frozen 4; have zt5 := hb2.frozen 5; have Hhb2 := Lib.hid hb2; clear hb2
          go_region
          have k2 : Blk ((((W0.setCell ⟨w.heap.size + 1, 0, none⟩ (.int .i64 5)).setCell ⟨w.heap.size + 1, 2, none⟩ (.string Q))).drew) (w.heap.size + 1) 38 #[.int .i64 5, .int .i64 (p : Int), .string Q, .int .i64 0, .int .i64 0, .int .i64 0] := ((Hhb2.out.setL 0 _ _ rfl).setL 2 _ _ rfl).drew
          have k1' : Blk ((((W0.setCell ⟨w.heap.size + 1, 0, none⟩ (.int .i64 5)).setCell ⟨w.heap.size + 1, 2, none⟩ (.string Q))).drew) w.heap.size 38 #[.int .i64 0, .int .i64 0, .string ⟨#[]⟩, .int .i64 0, .int .i64 0, .int .i64 0] := ((hb1.far (by simp) _).far (by simp) _).drew
          clear hlt qt0 qt1 qt2 qt3 qt4 qt5 zt0 zt1 zt2 zt3 zt4 zt5
          go_wp2_with (first | (refine wpList_load_blk k2 rfl _ _ (by rfl) (by rfl) (by (repeat (first | (with_reducible exact k2) | (with_reducible refine Blk.alloc ?_ _) | (with_reducible refine Blk.drew ?_) | (with_reducible refine Blk.far ?_ (by first | (simp; done) | (simp; omega)) _) | (with_reducible refine Blk.turn ?_ (by with_reducible assumption) (by omega))))) _ Tryz.underlying38 rfl (by kernel_rfl) ?_) | (refine wpList_store_blk k1' rfl _ _ _ (by rfl) _ (by rfl) (by rfl) (by (repeat (first | (with_reducible exact k1') | (with_reducible refine Blk.alloc ?_ _) | (with_reducible refine Blk.drew ?_) | (with_reducible refine Blk.far ?_ (by first | (simp; done) | (simp; omega)) _) | (with_reducible refine Blk.turn ?_ (by with_reducible assumption) (by omega))))) (by rfl) (by kernel_rfl) (by simp [Value.oneCell']) ?_; intro wt k1'n ht))
          refine ret_blk3 rfl k1'n rfl Tryz.underlying38 rfl (by kernel_rfl) rfl ?_
          exact ⟨by rw [hev.out (by rw [HR2.out]), HR2.out]; show _ = Ending.returned (Value.tuple #[.agg #[_, _, .string (bs q), _, _, _], .int .i64 ((p + q.length : Nat) : Int), _]); rw [HQQ.out, Hqn.out, Hpn.out]; rfl, by (repeat' (first | (with_reducible exact Below.refl _ _) | (with_reducible assumption) | (with_reducible refine balloc ?_ _) | (with_reducible refine Below.drew ?_) | (with_reducible refine bset ?_ ?_ _) | (with_reducible refine bstep ?_ (by with_reducible assumption)) | (with_reducible refine bturn ?_ (by with_reducible assumption) ?_) | go_size))⟩
        | false =>
          rw [hb] at hE
          have HQ2 : Hid ((signsL.drop (k + 1)).find? (fun g => g.isPrefixOf l) = f) := Lib.hid (by rw [← HQ.out]; exact (find_go Hq.out hb).symm)
          clear hb hqn hQ hpn
          go_wp2_with fail
          go_quiet (fail)
          go_wp2_with fail
          go_roundw
          case rel => exact ⟨k + 1, by omega, by go_num, HS.out, HB1.out.drewN _, HB2.out.drewN _, hlg, bdrewN hbr _, HQ2⟩
          case measure => simp [intOf]; omega
      · have hgi : ¬ (n : Int) ≤ (a : Int) := by omega
        have hb : q.isPrefixOf l = false := by
          cases hb : q.isPrefixOf l with
          | false => rfl
          | true =>
            have := (List.isPrefixOf_iff_prefix.1 hb).length_le
            rw [← Hl.out, List.length_drop, size_list] at this
            have := HA.out
            omega
        have HQ2 : Hid ((signsL.drop (k + 1)).find? (fun g => g.isPrefixOf l) = f) := Lib.hid (by rw [← HQ.out]; exact (find_go Hq.out hb).symm)
        clear hb hqn hQ
        go_wp2_with fail
        go_quiet (fail)
        go_wp2_with fail
        go_roundw
        case rel => exact ⟨k + 1, by omega, by go_num, HS.out, HB1.out.drewN _, HB2.out.drewN _, hlg, bdrewN hbr _, HQ2⟩
        case measure => simp [intOf]; omega
    · obtain rfl : k = 16 := by omega
      have hfq : f = none := by rw [← HQ.out]; rfl
      have hR := HR.out.2 hfq
      have HR2 := Lib.hid hR
      clear hR hfq hS
      go_wp2_with (first | (refine wpList_load_blk hb2 rfl _ _ (by rfl) (by rfl) (by (repeat (first | (with_reducible exact hb2) | (with_reducible refine Blk.alloc ?_ _) | (with_reducible refine Blk.drew ?_) | (with_reducible refine Blk.far ?_ (by first | (simp; done) | (simp; omega)) _) | (with_reducible refine Blk.turn ?_ (by with_reducible assumption) (by omega))))) _ Tryz.underlying38 rfl (by kernel_rfl) ?_) | (refine wpList_store_blk hb1 rfl _ _ _ (by rfl) _ (by rfl) (by rfl) (by (repeat (first | (with_reducible exact hb1) | (with_reducible refine Blk.alloc ?_ _) | (with_reducible refine Blk.drew ?_) | (with_reducible refine Blk.far ?_ (by first | (simp; done) | (simp; omega)) _) | (with_reducible refine Blk.turn ?_ (by with_reducible assumption) (by omega))))) (by rfl) (by kernel_rfl) (by simp [Value.oneCell']) ?_; intro wt hb1n ht))
      refine ret_blk3 rfl hb1n rfl Tryz.underlying38 rfl (by kernel_rfl) rfl ?_
      exact ⟨by rw [hev0.out (by rw [HR2.out]; decide), HR2.out]; rfl, by (repeat' (first | (with_reducible exact Below.refl _ _) | (with_reducible assumption) | (with_reducible refine balloc ?_ _) | (with_reducible refine Below.drew ?_) | (with_reducible refine bset ?_ ?_ _) | (with_reducible refine bstep ?_ (by with_reducible assumption)) | (with_reducible refine bturn ?_ (by with_reducible assumption) ?_) | go_size))⟩

end Go.Proofs.YtambpkkllgppdaaGreatDoor
