/- The walk of the reference's one at a number. -/
import Derived.Test.YtambpkkllgppdaaGreatDoorRLexB
import Derived.BigRegion
namespace Go.Proofs.YtambpkkllgppdaaGreatDoor
open Go.RowKit

theorem Blk.setL {w : World} {g : Nat} {t : TypeId} {cs : Array Value} (h : Blk w g t cs) (i : Nat) (u : Value) (cs' : Array Value) (he : cs.setIfInBounds i u = cs') : Blk (w.setCell ⟨g, i, none⟩ u) g t cs' := he ▸ h.set_ i u
theorem runS_at (S : Bs) (s : ByteArray) (k : Nat) (h : k < s.size) : runS S (s.data.toList.drop k) = if S.contains (s[k]'h) then runS S (s.data.toList.drop (k + 1)) + 1 else 0 := by
  rw [byte_drop s k h, runS_cons]
theorem runS_end (S : Bs) (s : ByteArray) (k : Nat) (h : ¬ k < s.size) : runS S (s.data.toList.drop k) = 0 := by
  rw [drop_end s k (by omega)]; rfl
theorem dotted_at (s : ByteArray) (k : Nat) (h : k + 1 < s.size) : dotted (s.data.toList.drop k) = (s[k]'(by omega) == 46 && figs.contains (s[k + 1]'h)) := by
  rw [byte_drop s k (by omega), byte_drop s (k + 1) h]
  by_cases hc : s[k]'(by omega) = 46
  · rw [hc]; simp [dotted]
  · have : (s[k]'(by omega) == 46) = false := by simpa using hc
    rw [this, Bool.false_and]
    simp only [dotted]
    split
    · rename_i h2
      injection h2 with h3 h4
      exact absurd h3 hc
    · rfl
theorem dotted_short (s : ByteArray) (k : Nat) (h : ¬ k + 1 < s.size) : dotted (s.data.toList.drop k) = false := by
  cases hd : dotted (s.data.toList.drop k) with
  | false => rfl
  | true =>
    have := dotted_len hd
    rw [List.length_drop, size_list] at this
    omega

set_option maxHeartbeats 8000000 in
set_option maxRecDepth 100000 in
theorem rone_num (s : ByteArray) (p : Nat) (hp : p < s.size) (hs : s.size ≤ 4000000) (hc : figs.contains (s[p]'hp) = true) (E : Nat) (hE : p + numLen (s.data.toList.drop p) = E) (rn rs re : Int) (w : World)
    (HP : Hid (∀ W, Calls Tryz.prog 38 #[.string (s.extract p E)] W fun e w' => e = .returned (.tuple #[.agg #[.int .i64 rn, .int .i64 rs], .int .i64 re]) ∧ Below W.heap.size W w')) :
    Calls Tryz.prog 19 #[.string s, .int .i64 (p : Int)] w fun e w' => e = .returned (.tuple #[.agg #[.int .i64 1, .int .i64 (p : Int), .string ⟨#[]⟩, .int .i64 rn, .int .i64 rs, .int .i64 0], .int .i64 (E : Int), .int .i64 re]) ∧ Below w.heap.size w w' := by
  have HF := Lib.hid (fun (c : UInt8) (b : Bool) (hb : figs.contains c = b) W => figure_any c.toNat b (by rw [fig_eq, hb]) W)
  have HF46 : Hid (∀ W, Calls Tryz.prog 37 #[.int .u8 46] W fun e w' => e = .returned (.bool false) ∧ W = w') := Lib.hid (fun W => figure_any 46 false rfl W)
  have hEs : E ≤ s.size := by
    have := numLen_le (s.data.toList.drop p)
    rw [List.length_drop, size_list] at this
    omega
  have hpE : p ≤ E := by omega
  have hpi : (p : Int) ≤ (E : Int) := by omega
  have hEi : (E : Int) ≤ (s.size : Int) := by omega
  have hb1 := Blk.new w 38 #[.int .i64 0, .int .i64 0, .string ⟨#[]⟩, .int .i64 0, .int .i64 0, .int .i64 0]
  have hb2 : Blk ((w.alloc (.cells #[.int .i64 0, .int .i64 0, .string ⟨#[]⟩, .int .i64 0, .int .i64 0, .int .i64 0] 38)).alloc (.cells #[.int .i64 0, .int .i64 (p : Int), .string ⟨#[]⟩, .int .i64 0, .int .i64 0, .int .i64 0] 38)) (w.heap.size + 1) 38 #[.int .i64 0, .int .i64 (p : Int), .string ⟨#[]⟩, .int .i64 0, .int .i64 0, .int .i64 0] := Blk.new' _ _ _ (by simp)
  have H1 := Lib.hid (show Blk (w.alloc (.cells #[.int .i64 0, .int .i64 0, .string ⟨#[]⟩, .int .i64 0, .int .i64 0, .int .i64 0] 38) |>.alloc (.cells #[.int .i64 0, .int .i64 (p : Int), .string ⟨#[]⟩, .int .i64 0, .int .i64 0, .int .i64 0] 38)) w.heap.size 38 #[.int .i64 0, .int .i64 0, .string ⟨#[]⟩, .int .i64 0, .int .i64 0, .int .i64 0] ∧ _ from ⟨hb1.alloc _, hb2⟩)
  clear hb1 hb2
  obtain ⟨m, hm⟩ : ∃ m, p + runS figs (s.data.toList.drop p) = m := ⟨_, rfl⟩
  have HE := Lib.hid hE
  have Hm := Lib.hid hm
  have HC := Lib.hid hc
  clear hE hm hc
  go_enter Tryz.func19, Tryz.ntmps19
  go_wp2_with fail
  refine (HF.out _ true HC.out _).mono ?_
  rintro _ _ ⟨rfl, rfl⟩
  go_wp2_with fail
  go_loop [8] (fun i => ∃ k : Nat, p ≤ k ∧ k ≤ s.size ∧ i = .int .i64 (k : Int) ∧ Hid (k + runS figs (s.data.toList.drop k) = m)) (fun i => s.size - (intOf i).toNat)
  case atStart => exact ⟨p, Nat.le_refl _, by omega, rfl, Hm⟩
  case round =>
    obtain ⟨k, hpk, hk, rfl, HK⟩ := hrel
    by_cases hlt : k < s.size
    · have hst := HK.out
      rw [runS_at figs s k hlt] at hst
      cases hf : figs.contains (s[k]'hlt) with
      | true =>
        rw [hf, if_pos rfl] at hst
        obtain ⟨k1, hk1⟩ : ∃ k1, k + 1 = k1 := ⟨_, rfl⟩
        rw [hk1] at hst
        have w4 : (k : Int) + 1 = (k1 : Int) := by omega
        have w5 : IntKind.i64.wrap (k1 : Int) = (k1 : Int) := IntWalk.i64_in _ (by omega)
        have HK2 : Hid (k1 + runS figs (s.data.toList.drop k1) = m) := Lib.hid (by omega)
        have HQ : Hid (p ≤ k1 ∧ k1 ≤ s.size ∧ k < k1) := Lib.hid ⟨by omega, by omega, by omega⟩
        have HF2 := Lib.hid hf
        clear hst hf hk1
        go_wp2_with fail
        refine (HF.out _ true HF2.out _).mono ?_
        rintro _ _ ⟨rfl, rfl⟩
        go_wp2_with fail
        go_round
        case rel => exact ⟨k1, HQ.out.1, HQ.out.2.1, by go_num, HK2⟩
        case measure => have := HQ.out; simp [intOf]; omega
      | false =>
        rw [hf, if_neg (by simp), Nat.add_zero] at hst
        have HF2 := Lib.hid hf
        have HkE : Hid (dotted (s.data.toList.drop k) = false → k = E) := Lib.hid (fun h => by
          have h1 := HE.out
          have h2 := Hm.out
          unfold numLen at h1
          have h3 : p + runS figs (s.data.toList.drop p) = k := by omega
          rw [List.drop_drop, h3, h, if_neg (by simp)] at h1
          omega)
        have HkD : Hid (dotted (s.data.toList.drop k) = true → k + 1 + runS figs (s.data.toList.drop (k + 1)) = E) := Lib.hid (fun h => by
          have h1 := HE.out
          have h2 := Hm.out
          unfold numLen at h1
          have h3 : p + runS figs (s.data.toList.drop p) = k := by omega
          rw [List.drop_drop, h3, h, if_pos rfl, List.drop_drop, show p + (runS figs (s.data.toList.drop p) + 1) = k + 1 by omega] at h1
          omega)
        clear hst hf
        obtain ⟨k1, hk1⟩ : ∃ k1, k + 1 = k1 := ⟨_, rfl⟩
        have w4 : (k : Int) + 1 = (k1 : Int) := by omega
        have w5 : IntKind.i64.wrap (k1 : Int) = (k1 : Int) := IntWalk.i64_in _ (by omega)
        by_cases hlt2 : k + 1 < s.size
        · have hlt3 : k1 < s.size := by omega
          have hlt3i : (k1 : Int) < (s.size : Int) := by omega
          by_cases h46 : s[k]'hlt = 46
          · have y1 : (((s[k]'hlt).toNat : Nat) : Int) = 46 := by rw [h46]; rfl
            cases hf2 : figs.contains (s[k1]'hlt3) with
            | true =>
              have hd : dotted (s.data.toList.drop k) = true := by
                rw [dotted_at s k hlt2, h46]
                subst hk1
                rw [hf2]; rfl
              have HD := Lib.hid (HkD.out hd)
              have HF3 := Lib.hid hf2
              have HK1 := Lib.hid hk1
              clear hd hf2 hk1 h46 hlt2
              go_wp2_with fail
              refine (HF46.out _).mono ?_
              rintro _ _ ⟨rfl, rfl⟩
              go_wp2_with fail
              refine (HF.out _ true HF3.out _).mono ?_
              rintro _ _ ⟨rfl, rfl⟩
              go_wp2_with fail
              go_loop [8] (fun i => ∃ q : Nat, k1 ≤ q ∧ q ≤ s.size ∧ i = .int .i64 (q : Int) ∧ Hid (q + runS figs (s.data.toList.drop q) = E)) (fun i => s.size - (intOf i).toNat)
              case atStart => exact ⟨k1, Nat.le_refl _, by omega, rfl, Lib.hid (by have := HD.out; rw [HK1.out] at this; exact this)⟩
              case round =>
                obtain ⟨q, hpq, hq, rfl, HQ⟩ := hrel
                by_cases hqt : q < s.size
                · have hst := HQ.out
                  rw [runS_at figs s q hqt] at hst
                  cases hf4 : figs.contains (s[q]'hqt) with
                  | true =>
                    rw [hf4, if_pos rfl] at hst
                    obtain ⟨q1, hq1⟩ : ∃ q1, q + 1 = q1 := ⟨_, rfl⟩
                    rw [hq1] at hst
                    have v4 : (q : Int) + 1 = (q1 : Int) := by omega
                    have v5 : IntKind.i64.wrap (q1 : Int) = (q1 : Int) := IntWalk.i64_in _ (by omega)
                    have HK2 : Hid (q1 + runS figs (s.data.toList.drop q1) = E) := Lib.hid (by omega)
                    have HQQ : Hid (k1 ≤ q1 ∧ q1 ≤ s.size ∧ q < q1) := Lib.hid ⟨by omega, by omega, by omega⟩
                    have HF4 := Lib.hid hf4
                    clear hst hf4 hq1
                    go_wp2_with fail
                    refine (HF.out _ true HF4.out _).mono ?_
                    rintro _ _ ⟨rfl, rfl⟩
                    go_wp2_with fail
                    go_round
                    case rel => exact ⟨q1, HQQ.out.1, HQQ.out.2.1, by go_num, HK2⟩
                    case measure => have := HQQ.out; simp [intOf]; omega
                  | false =>
                    rw [hf4, if_neg (by simp), Nat.add_zero] at hst
                    have HF4 := Lib.hid hf4
                    subst hst
                    clear hf4
                    go_wp2_with fail
                    refine (HF.out _ false HF4.out _).mono ?_
                    rintro _ _ ⟨rfl, rfl⟩
                    go_wp2_with fail
                    refine (HP.out _).mono ?_
                    rintro _ w1 ⟨rfl, hw1⟩
                    obtain ⟨hb1, hb2⟩ := H1.out
                    replace hb1 := hb1.step hw1
                    replace hb2 := hb2.step hw1
                    have hb3 := Blk.new w1 36 #[.int .i64 rn, .int .i64 rs]
                    have hlt := hb2.lt; have hllt := lts hlt; have qt0 := hb2.cell 0; have qt1 := hb2.cell 1; have qt2 := hb2.cell 2; have qt3 := hb2.cell 3; have qt4 := hb2.cell 4; have qt5 := hb2.cell 5; simp at qt0 qt1 qt2 qt3 qt4 qt5; have zt0 := hb2.frozen 0; have zt1 := hb2.frozen 1; have zt2 := hb2.frozen 2; have zt3 := hb2.frozen 3; have zt4 := hb2.frozen 4; have zt5 := hb2.frozen 5; have Hhb2 := Lib.hid hb2; clear hb2
                    go_wp2_with fail
                    go_region
                    have k2 : Blk (((((w1.setCell ⟨w.heap.size + 1, 0, none⟩ (.int .i64 1)).setCell ⟨w.heap.size + 1, 3, none⟩ (.int .i64 rn)).setCell ⟨w.heap.size + 1, 4, none⟩ (.int .i64 rs)).alloc (.cells #[.int .i64 rn, .int .i64 rs] 36)).drew) (w.heap.size + 1) 38 #[.int .i64 1, .int .i64 (p : Int), .string ⟨#[]⟩, .int .i64 rn, .int .i64 rs, .int .i64 0] :=
                      ((((Hhb2.out.setL 0 _ _ rfl).setL 3 _ _ rfl).setL 4 _ _ rfl).alloc _).drew
                    have k1' : Blk (((((w1.setCell ⟨w.heap.size + 1, 0, none⟩ (.int .i64 1)).setCell ⟨w.heap.size + 1, 3, none⟩ (.int .i64 rn)).setCell ⟨w.heap.size + 1, 4, none⟩ (.int .i64 rs)).alloc (.cells #[.int .i64 rn, .int .i64 rs] 36)).drew) w.heap.size 38 #[.int .i64 0, .int .i64 0, .string ⟨#[]⟩, .int .i64 0, .int .i64 0, .int .i64 0] :=
                      ((((hb1.far (by simp) _).far (by simp) _).far (by simp) _).alloc _).drew
                    clear hlt qt0 qt1 qt2 qt3 qt4 qt5 zt0 zt1 zt2 zt3 zt4 zt5
                    go_wp2_with (first | (refine wpList_load_blk k2 rfl _ _ (by rfl) (by rfl) (by (repeat (first | (with_reducible exact k2) | (with_reducible refine Blk.alloc ?_ _) | (with_reducible refine Blk.drew ?_) | (with_reducible refine Blk.far ?_ (by first | (simp; done) | (simp; omega)) _) | (with_reducible refine Blk.turn ?_ (by with_reducible assumption) (by omega))))) _ Tryz.underlying38 rfl (by kernel_rfl) ?_) | (refine wpList_store_blk k1' rfl _ _ _ (by rfl) _ (by rfl) (by rfl) (by (repeat (first | (with_reducible exact k1') | (with_reducible refine Blk.alloc ?_ _) | (with_reducible refine Blk.drew ?_) | (with_reducible refine Blk.far ?_ (by first | (simp; done) | (simp; omega)) _) | (with_reducible refine Blk.turn ?_ (by with_reducible assumption) (by omega))))) (by rfl) (by kernel_rfl) (by simp [Value.oneCell']) ?_; intro wt k1'n ht))
                    refine ret_blk3 rfl k1'n rfl Tryz.underlying38 rfl (by kernel_rfl) rfl ?_
                    exact ⟨rfl, by (repeat' (first | (with_reducible exact Below.refl _ _) | (with_reducible assumption) | (with_reducible refine balloc ?_ _) | (with_reducible refine Below.drew ?_) | (with_reducible refine bset ?_ ?_ _) | (with_reducible refine bstep ?_ (by with_reducible assumption)) | (with_reducible refine bturn ?_ (by with_reducible assumption) ?_) | go_size))⟩
                · have hst := HQ.out
                  rw [runS_end figs s q hqt, Nat.add_zero] at hst
                  subst hst
                  go_wp2_with fail
                  refine (HP.out _).mono ?_
                  rintro _ w1 ⟨rfl, hw1⟩
                  obtain ⟨hb1, hb2⟩ := H1.out
                  replace hb1 := hb1.step hw1
                  replace hb2 := hb2.step hw1
                  have hb3 := Blk.new w1 36 #[.int .i64 rn, .int .i64 rs]
                  have hlt := hb2.lt; have hllt := lts hlt; have qt0 := hb2.cell 0; have qt1 := hb2.cell 1; have qt2 := hb2.cell 2; have qt3 := hb2.cell 3; have qt4 := hb2.cell 4; have qt5 := hb2.cell 5; simp at qt0 qt1 qt2 qt3 qt4 qt5; have zt0 := hb2.frozen 0; have zt1 := hb2.frozen 1; have zt2 := hb2.frozen 2; have zt3 := hb2.frozen 3; have zt4 := hb2.frozen 4; have zt5 := hb2.frozen 5; have Hhb2 := Lib.hid hb2; clear hb2
                  go_wp2_with fail
                  go_region
                  have k2 : Blk (((((w1.setCell ⟨w.heap.size + 1, 0, none⟩ (.int .i64 1)).setCell ⟨w.heap.size + 1, 3, none⟩ (.int .i64 rn)).setCell ⟨w.heap.size + 1, 4, none⟩ (.int .i64 rs)).alloc (.cells #[.int .i64 rn, .int .i64 rs] 36)).drew) (w.heap.size + 1) 38 #[.int .i64 1, .int .i64 (p : Int), .string ⟨#[]⟩, .int .i64 rn, .int .i64 rs, .int .i64 0] :=
                    ((((Hhb2.out.setL 0 _ _ rfl).setL 3 _ _ rfl).setL 4 _ _ rfl).alloc _).drew
                  have k1' : Blk (((((w1.setCell ⟨w.heap.size + 1, 0, none⟩ (.int .i64 1)).setCell ⟨w.heap.size + 1, 3, none⟩ (.int .i64 rn)).setCell ⟨w.heap.size + 1, 4, none⟩ (.int .i64 rs)).alloc (.cells #[.int .i64 rn, .int .i64 rs] 36)).drew) w.heap.size 38 #[.int .i64 0, .int .i64 0, .string ⟨#[]⟩, .int .i64 0, .int .i64 0, .int .i64 0] :=
                    ((((hb1.far (by simp) _).far (by simp) _).far (by simp) _).alloc _).drew
                  clear hlt qt0 qt1 qt2 qt3 qt4 qt5 zt0 zt1 zt2 zt3 zt4 zt5
                  go_wp2_with (first | (refine wpList_load_blk k2 rfl _ _ (by rfl) (by rfl) (by (repeat (first | (with_reducible exact k2) | (with_reducible refine Blk.alloc ?_ _) | (with_reducible refine Blk.drew ?_) | (with_reducible refine Blk.far ?_ (by first | (simp; done) | (simp; omega)) _) | (with_reducible refine Blk.turn ?_ (by with_reducible assumption) (by omega))))) _ Tryz.underlying38 rfl (by kernel_rfl) ?_) | (refine wpList_store_blk k1' rfl _ _ _ (by rfl) _ (by rfl) (by rfl) (by (repeat (first | (with_reducible exact k1') | (with_reducible refine Blk.alloc ?_ _) | (with_reducible refine Blk.drew ?_) | (with_reducible refine Blk.far ?_ (by first | (simp; done) | (simp; omega)) _) | (with_reducible refine Blk.turn ?_ (by with_reducible assumption) (by omega))))) (by rfl) (by kernel_rfl) (by simp [Value.oneCell']) ?_; intro wt k1'n ht))
                  refine ret_blk3 rfl k1'n rfl Tryz.underlying38 rfl (by kernel_rfl) rfl ?_
                  exact ⟨rfl, by (repeat' (first | (with_reducible exact Below.refl _ _) | (with_reducible assumption) | (with_reducible refine balloc ?_ _) | (with_reducible refine Below.drew ?_) | (with_reducible refine bset ?_ ?_ _) | (with_reducible refine bstep ?_ (by with_reducible assumption)) | (with_reducible refine bturn ?_ (by with_reducible assumption) ?_) | go_size))⟩
            | false =>
              have hd : dotted (s.data.toList.drop k) = false := by
                rw [dotted_at s k hlt2, h46]
                subst hk1
                rw [hf2]; rfl
              obtain rfl := HkE.out hd
              have HF3 := Lib.hid hf2
              clear hd hf2 hk1 h46 hlt2
              go_wp2_with fail
              refine (HF46.out _).mono ?_
              rintro _ _ ⟨rfl, rfl⟩
              go_wp2_with fail
              refine (HF.out _ false HF3.out _).mono ?_
              rintro _ _ ⟨rfl, rfl⟩
              go_wp2_with fail
              refine (HP.out _).mono ?_
              rintro _ w1 ⟨rfl, hw1⟩
              obtain ⟨hb1, hb2⟩ := H1.out
              replace hb1 := hb1.step hw1
              replace hb2 := hb2.step hw1
              have hb3 := Blk.new w1 36 #[.int .i64 rn, .int .i64 rs]
              have hlt := hb2.lt; have hllt := lts hlt; have qt0 := hb2.cell 0; have qt1 := hb2.cell 1; have qt2 := hb2.cell 2; have qt3 := hb2.cell 3; have qt4 := hb2.cell 4; have qt5 := hb2.cell 5; simp at qt0 qt1 qt2 qt3 qt4 qt5; have zt0 := hb2.frozen 0; have zt1 := hb2.frozen 1; have zt2 := hb2.frozen 2; have zt3 := hb2.frozen 3; have zt4 := hb2.frozen 4; have zt5 := hb2.frozen 5; have Hhb2 := Lib.hid hb2; clear hb2
              go_wp2_with fail
              go_region
              have k2 : Blk (((((w1.setCell ⟨w.heap.size + 1, 0, none⟩ (.int .i64 1)).setCell ⟨w.heap.size + 1, 3, none⟩ (.int .i64 rn)).setCell ⟨w.heap.size + 1, 4, none⟩ (.int .i64 rs)).alloc (.cells #[.int .i64 rn, .int .i64 rs] 36)).drew) (w.heap.size + 1) 38 #[.int .i64 1, .int .i64 (p : Int), .string ⟨#[]⟩, .int .i64 rn, .int .i64 rs, .int .i64 0] :=
                ((((Hhb2.out.setL 0 _ _ rfl).setL 3 _ _ rfl).setL 4 _ _ rfl).alloc _).drew
              have k1' : Blk (((((w1.setCell ⟨w.heap.size + 1, 0, none⟩ (.int .i64 1)).setCell ⟨w.heap.size + 1, 3, none⟩ (.int .i64 rn)).setCell ⟨w.heap.size + 1, 4, none⟩ (.int .i64 rs)).alloc (.cells #[.int .i64 rn, .int .i64 rs] 36)).drew) w.heap.size 38 #[.int .i64 0, .int .i64 0, .string ⟨#[]⟩, .int .i64 0, .int .i64 0, .int .i64 0] :=
                ((((hb1.far (by simp) _).far (by simp) _).far (by simp) _).alloc _).drew
              clear hlt qt0 qt1 qt2 qt3 qt4 qt5 zt0 zt1 zt2 zt3 zt4 zt5
              go_wp2_with (first | (refine wpList_load_blk k2 rfl _ _ (by rfl) (by rfl) (by (repeat (first | (with_reducible exact k2) | (with_reducible refine Blk.alloc ?_ _) | (with_reducible refine Blk.drew ?_) | (with_reducible refine Blk.far ?_ (by first | (simp; done) | (simp; omega)) _) | (with_reducible refine Blk.turn ?_ (by with_reducible assumption) (by omega))))) _ Tryz.underlying38 rfl (by kernel_rfl) ?_) | (refine wpList_store_blk k1' rfl _ _ _ (by rfl) _ (by rfl) (by rfl) (by (repeat (first | (with_reducible exact k1') | (with_reducible refine Blk.alloc ?_ _) | (with_reducible refine Blk.drew ?_) | (with_reducible refine Blk.far ?_ (by first | (simp; done) | (simp; omega)) _) | (with_reducible refine Blk.turn ?_ (by with_reducible assumption) (by omega))))) (by rfl) (by kernel_rfl) (by simp [Value.oneCell']) ?_; intro wt k1'n ht))
              refine ret_blk3 rfl k1'n rfl Tryz.underlying38 rfl (by kernel_rfl) rfl ?_
              exact ⟨rfl, by (repeat' (first | (with_reducible exact Below.refl _ _) | (with_reducible assumption) | (with_reducible refine balloc ?_ _) | (with_reducible refine Below.drew ?_) | (with_reducible refine bset ?_ ?_ _) | (with_reducible refine bstep ?_ (by with_reducible assumption)) | (with_reducible refine bturn ?_ (by with_reducible assumption) ?_) | go_size))⟩
          · have y1 : ((((s[k]'hlt).toNat : Nat) : Int) == 46) = false := by
              simpa using fun e => h46 (UInt8.toNat_inj.1 (by rw [show (46 : UInt8).toNat = 46 from rfl]; omega))
            have hd : dotted (s.data.toList.drop k) = false := by
              rw [dotted_at s k hlt2, show (s[k]'hlt == 46) = false by simpa using h46]; rfl
            obtain rfl := HkE.out hd
            clear hd hk1 h46 hlt2
            go_wp2_with fail
            refine (HF.out _ false HF2.out _).mono ?_
            rintro _ _ ⟨rfl, rfl⟩
            go_wp2_with fail
            refine (HP.out _).mono ?_
            rintro _ w1 ⟨rfl, hw1⟩
            obtain ⟨hb1, hb2⟩ := H1.out
            replace hb1 := hb1.step hw1
            replace hb2 := hb2.step hw1
            have hb3 := Blk.new w1 36 #[.int .i64 rn, .int .i64 rs]
            have hlt := hb2.lt; have hllt := lts hlt; have qt0 := hb2.cell 0; have qt1 := hb2.cell 1; have qt2 := hb2.cell 2; have qt3 := hb2.cell 3; have qt4 := hb2.cell 4; have qt5 := hb2.cell 5; simp at qt0 qt1 qt2 qt3 qt4 qt5; have zt0 := hb2.frozen 0; have zt1 := hb2.frozen 1; have zt2 := hb2.frozen 2; have zt3 := hb2.frozen 3; have zt4 := hb2.frozen 4; have zt5 := hb2.frozen 5; have Hhb2 := Lib.hid hb2; clear hb2
            go_wp2_with fail
            go_region
            have k2 : Blk (((((w1.setCell ⟨w.heap.size + 1, 0, none⟩ (.int .i64 1)).setCell ⟨w.heap.size + 1, 3, none⟩ (.int .i64 rn)).setCell ⟨w.heap.size + 1, 4, none⟩ (.int .i64 rs)).alloc (.cells #[.int .i64 rn, .int .i64 rs] 36)).drew) (w.heap.size + 1) 38 #[.int .i64 1, .int .i64 (p : Int), .string ⟨#[]⟩, .int .i64 rn, .int .i64 rs, .int .i64 0] :=
              ((((Hhb2.out.setL 0 _ _ rfl).setL 3 _ _ rfl).setL 4 _ _ rfl).alloc _).drew
            have k1' : Blk (((((w1.setCell ⟨w.heap.size + 1, 0, none⟩ (.int .i64 1)).setCell ⟨w.heap.size + 1, 3, none⟩ (.int .i64 rn)).setCell ⟨w.heap.size + 1, 4, none⟩ (.int .i64 rs)).alloc (.cells #[.int .i64 rn, .int .i64 rs] 36)).drew) w.heap.size 38 #[.int .i64 0, .int .i64 0, .string ⟨#[]⟩, .int .i64 0, .int .i64 0, .int .i64 0] :=
              ((((hb1.far (by simp) _).far (by simp) _).far (by simp) _).alloc _).drew
            clear hlt qt0 qt1 qt2 qt3 qt4 qt5 zt0 zt1 zt2 zt3 zt4 zt5
            go_wp2_with (first | (refine wpList_load_blk k2 rfl _ _ (by rfl) (by rfl) (by (repeat (first | (with_reducible exact k2) | (with_reducible refine Blk.alloc ?_ _) | (with_reducible refine Blk.drew ?_) | (with_reducible refine Blk.far ?_ (by first | (simp; done) | (simp; omega)) _) | (with_reducible refine Blk.turn ?_ (by with_reducible assumption) (by omega))))) _ Tryz.underlying38 rfl (by kernel_rfl) ?_) | (refine wpList_store_blk k1' rfl _ _ _ (by rfl) _ (by rfl) (by rfl) (by (repeat (first | (with_reducible exact k1') | (with_reducible refine Blk.alloc ?_ _) | (with_reducible refine Blk.drew ?_) | (with_reducible refine Blk.far ?_ (by first | (simp; done) | (simp; omega)) _) | (with_reducible refine Blk.turn ?_ (by with_reducible assumption) (by omega))))) (by rfl) (by kernel_rfl) (by simp [Value.oneCell']) ?_; intro wt k1'n ht))
            refine ret_blk3 rfl k1'n rfl Tryz.underlying38 rfl (by kernel_rfl) rfl ?_
            exact ⟨rfl, by (repeat' (first | (with_reducible exact Below.refl _ _) | (with_reducible assumption) | (with_reducible refine balloc ?_ _) | (with_reducible refine Below.drew ?_) | (with_reducible refine bset ?_ ?_ _) | (with_reducible refine bstep ?_ (by with_reducible assumption)) | (with_reducible refine bturn ?_ (by with_reducible assumption) ?_) | go_size))⟩
        · have hlt3i : ¬ (k1 : Int) < (s.size : Int) := by omega
          have hd : dotted (s.data.toList.drop k) = false := dotted_short s k hlt2
          obtain rfl := HkE.out hd
          clear hd hk1 hlt2
          go_wp2_with fail
          refine (HF.out _ false HF2.out _).mono ?_
          rintro _ _ ⟨rfl, rfl⟩
          go_wp2_with fail
          refine (HP.out _).mono ?_
          rintro _ w1 ⟨rfl, hw1⟩
          obtain ⟨hb1, hb2⟩ := H1.out
          replace hb1 := hb1.step hw1
          replace hb2 := hb2.step hw1
          have hb3 := Blk.new w1 36 #[.int .i64 rn, .int .i64 rs]
          have hlt := hb2.lt; have hllt := lts hlt; have qt0 := hb2.cell 0; have qt1 := hb2.cell 1; have qt2 := hb2.cell 2; have qt3 := hb2.cell 3; have qt4 := hb2.cell 4; have qt5 := hb2.cell 5; simp at qt0 qt1 qt2 qt3 qt4 qt5; have zt0 := hb2.frozen 0; have zt1 := hb2.frozen 1; have zt2 := hb2.frozen 2; have zt3 := hb2.frozen 3; have zt4 := hb2.frozen 4; have zt5 := hb2.frozen 5; have Hhb2 := Lib.hid hb2; clear hb2
          go_wp2_with fail
          go_region
          have k2 : Blk (((((w1.setCell ⟨w.heap.size + 1, 0, none⟩ (.int .i64 1)).setCell ⟨w.heap.size + 1, 3, none⟩ (.int .i64 rn)).setCell ⟨w.heap.size + 1, 4, none⟩ (.int .i64 rs)).alloc (.cells #[.int .i64 rn, .int .i64 rs] 36)).drew) (w.heap.size + 1) 38 #[.int .i64 1, .int .i64 (p : Int), .string ⟨#[]⟩, .int .i64 rn, .int .i64 rs, .int .i64 0] :=
            ((((Hhb2.out.setL 0 _ _ rfl).setL 3 _ _ rfl).setL 4 _ _ rfl).alloc _).drew
          have k1' : Blk (((((w1.setCell ⟨w.heap.size + 1, 0, none⟩ (.int .i64 1)).setCell ⟨w.heap.size + 1, 3, none⟩ (.int .i64 rn)).setCell ⟨w.heap.size + 1, 4, none⟩ (.int .i64 rs)).alloc (.cells #[.int .i64 rn, .int .i64 rs] 36)).drew) w.heap.size 38 #[.int .i64 0, .int .i64 0, .string ⟨#[]⟩, .int .i64 0, .int .i64 0, .int .i64 0] :=
            ((((hb1.far (by simp) _).far (by simp) _).far (by simp) _).alloc _).drew
          clear hlt qt0 qt1 qt2 qt3 qt4 qt5 zt0 zt1 zt2 zt3 zt4 zt5
          go_wp2_with (first | (refine wpList_load_blk k2 rfl _ _ (by rfl) (by rfl) (by (repeat (first | (with_reducible exact k2) | (with_reducible refine Blk.alloc ?_ _) | (with_reducible refine Blk.drew ?_) | (with_reducible refine Blk.far ?_ (by first | (simp; done) | (simp; omega)) _) | (with_reducible refine Blk.turn ?_ (by with_reducible assumption) (by omega))))) _ Tryz.underlying38 rfl (by kernel_rfl) ?_) | (refine wpList_store_blk k1' rfl _ _ _ (by rfl) _ (by rfl) (by rfl) (by (repeat (first | (with_reducible exact k1') | (with_reducible refine Blk.alloc ?_ _) | (with_reducible refine Blk.drew ?_) | (with_reducible refine Blk.far ?_ (by first | (simp; done) | (simp; omega)) _) | (with_reducible refine Blk.turn ?_ (by with_reducible assumption) (by omega))))) (by rfl) (by kernel_rfl) (by simp [Value.oneCell']) ?_; intro wt k1'n ht))
          refine ret_blk3 rfl k1'n rfl Tryz.underlying38 rfl (by kernel_rfl) rfl ?_
          exact ⟨rfl, by (repeat' (first | (with_reducible exact Below.refl _ _) | (with_reducible assumption) | (with_reducible refine balloc ?_ _) | (with_reducible refine Below.drew ?_) | (with_reducible refine bset ?_ ?_ _) | (with_reducible refine bstep ?_ (by with_reducible assumption)) | (with_reducible refine bturn ?_ (by with_reducible assumption) ?_) | go_size))⟩
    · have hst := HK.out
      rw [runS_end figs s k hlt, Nat.add_zero] at hst
      have hd : dotted (s.data.toList.drop k) = false := dotted_short s k (by omega)
      have hkE : k = E := by
        have h1 := HE.out
        have h2 := Hm.out
        unfold numLen at h1
        rw [List.drop_drop, show p + runS figs (s.data.toList.drop p) = k by omega, hd, if_neg (by simp)] at h1
        omega
      obtain ⟨k1, hk1⟩ : ∃ k1, k + 1 = k1 := ⟨_, rfl⟩
      have w4 : (k : Int) + 1 = (k1 : Int) := by omega
      have w5 : IntKind.i64.wrap (k1 : Int) = (k1 : Int) := IntWalk.i64_in _ (by omega)
      have hlt3i : ¬ (k1 : Int) < (s.size : Int) := by omega
      subst hkE
      clear hst hd hk1
      go_wp2_with fail
      refine (HP.out _).mono ?_
      rintro _ w1 ⟨rfl, hw1⟩
      obtain ⟨hb1, hb2⟩ := H1.out
      replace hb1 := hb1.step hw1
      replace hb2 := hb2.step hw1
      have hb3 := Blk.new w1 36 #[.int .i64 rn, .int .i64 rs]
      have hlt := hb2.lt; have hllt := lts hlt; have qt0 := hb2.cell 0; have qt1 := hb2.cell 1; have qt2 := hb2.cell 2; have qt3 := hb2.cell 3; have qt4 := hb2.cell 4; have qt5 := hb2.cell 5; simp at qt0 qt1 qt2 qt3 qt4 qt5; have zt0 := hb2.frozen 0; have zt1 := hb2.frozen 1; have zt2 := hb2.frozen 2; have zt3 := hb2.frozen 3; have zt4 := hb2.frozen 4; have zt5 := hb2.frozen 5; have Hhb2 := Lib.hid hb2; clear hb2
      go_wp2_with fail
      go_region
      have k2 : Blk (((((w1.setCell ⟨w.heap.size + 1, 0, none⟩ (.int .i64 1)).setCell ⟨w.heap.size + 1, 3, none⟩ (.int .i64 rn)).setCell ⟨w.heap.size + 1, 4, none⟩ (.int .i64 rs)).alloc (.cells #[.int .i64 rn, .int .i64 rs] 36)).drew) (w.heap.size + 1) 38 #[.int .i64 1, .int .i64 (p : Int), .string ⟨#[]⟩, .int .i64 rn, .int .i64 rs, .int .i64 0] :=
        ((((Hhb2.out.setL 0 _ _ rfl).setL 3 _ _ rfl).setL 4 _ _ rfl).alloc _).drew
      have k1' : Blk (((((w1.setCell ⟨w.heap.size + 1, 0, none⟩ (.int .i64 1)).setCell ⟨w.heap.size + 1, 3, none⟩ (.int .i64 rn)).setCell ⟨w.heap.size + 1, 4, none⟩ (.int .i64 rs)).alloc (.cells #[.int .i64 rn, .int .i64 rs] 36)).drew) w.heap.size 38 #[.int .i64 0, .int .i64 0, .string ⟨#[]⟩, .int .i64 0, .int .i64 0, .int .i64 0] :=
        ((((hb1.far (by simp) _).far (by simp) _).far (by simp) _).alloc _).drew
      clear hlt qt0 qt1 qt2 qt3 qt4 qt5 zt0 zt1 zt2 zt3 zt4 zt5
      go_wp2_with (first | (refine wpList_load_blk k2 rfl _ _ (by rfl) (by rfl) (by (repeat (first | (with_reducible exact k2) | (with_reducible refine Blk.alloc ?_ _) | (with_reducible refine Blk.drew ?_) | (with_reducible refine Blk.far ?_ (by first | (simp; done) | (simp; omega)) _) | (with_reducible refine Blk.turn ?_ (by with_reducible assumption) (by omega))))) _ Tryz.underlying38 rfl (by kernel_rfl) ?_) | (refine wpList_store_blk k1' rfl _ _ _ (by rfl) _ (by rfl) (by rfl) (by (repeat (first | (with_reducible exact k1') | (with_reducible refine Blk.alloc ?_ _) | (with_reducible refine Blk.drew ?_) | (with_reducible refine Blk.far ?_ (by first | (simp; done) | (simp; omega)) _) | (with_reducible refine Blk.turn ?_ (by with_reducible assumption) (by omega))))) (by rfl) (by kernel_rfl) (by simp [Value.oneCell']) ?_; intro wt k1'n ht))
      refine ret_blk3 rfl k1'n rfl Tryz.underlying38 rfl (by kernel_rfl) rfl ?_
      exact ⟨rfl, by (repeat' (first | (with_reducible exact Below.refl _ _) | (with_reducible assumption) | (with_reducible refine balloc ?_ _) | (with_reducible refine Below.drew ?_) | (with_reducible refine bset ?_ ?_ _) | (with_reducible refine bstep ?_ (by with_reducible assumption)) | (with_reducible refine bturn ?_ (by with_reducible assumption) ?_) | go_size))⟩
end Go.Proofs.YtambpkkllgppdaaGreatDoor
