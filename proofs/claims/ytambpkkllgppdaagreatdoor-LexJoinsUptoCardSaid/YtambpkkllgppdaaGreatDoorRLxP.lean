/- The walks of the reference's small functions of package lex: figure, White, Name, Word, quoted. The walks of the reference's signs: Sign, first, Bad, Good; a text's signs may stand by the one as by the other. The walk of the reference's one at a number. -/
import Derived.Test.YtambpkkllgppdaaGreatDoorLexF
import Derived.Test.YtambpkkllgppdaaGreatDoorRLexM
import Derived.BigRegion
namespace Go.Proofs.YtambpkkllgppdaaGreatDoor
open Go.RowKit

theorem figure_any (n : Nat) (b : Bool) (hb : decide (48 ≤ n ∧ n ≤ 57) = b) (w : World) : Calls Tryz.prog 37 #[.int .u8 (n : Int)] w fun e w' => e = .returned (.bool b) ∧ w = w' := by
  subst hb
  by_cases g1 : 48 ≤ n
  · have k1 : (48 : Int) ≤ (n : Int) := by omega
    by_cases g2 : n ≤ 57
    · have k2 : (n : Int) ≤ 57 := by omega
      rw [decide_eq_true (And.intro g1 g2)]
      clear g1 g2
      go_enter Tryz.func37, Tryz.ntmps37
      go_wp2
      go_ret
      exact ⟨rfl, rfl⟩
    · have k2 : ¬ (n : Int) ≤ 57 := by omega
      rw [decide_eq_false (fun h => g2 h.2)]
      clear g1 g2
      go_enter Tryz.func37, Tryz.ntmps37
      go_wp2
      go_ret
      exact ⟨rfl, rfl⟩
  · have k1 : ¬ (48 : Int) ≤ (n : Int) := by omega
    rw [decide_eq_false (fun h => g1 h.1)]
    clear g1
    go_enter Tryz.func37, Tryz.ntmps37
    go_wp2
    go_ret
    exact ⟨rfl, rfl⟩

def whiB (n : Nat) : Bool := decide (n = 9 ∨ n = 10 ∨ n = 13 ∨ n = 32)
theorem white_any (n : Nat) (b : Bool) (hb : whiB n = b) (w : World) : Calls Tryz.prog 18 #[.int .u8 (n : Int)] w fun e w' => e = .returned (.bool b) ∧ w = w' := by
  subst hb
  by_cases g9 : n = 9
  · subst g9
    go_enter Tryz.func18, Tryz.ntmps18
    go_wp2
    go_ret
    exact ⟨rfl, rfl⟩
  by_cases g10 : n = 10
  · subst g10
    go_enter Tryz.func18, Tryz.ntmps18
    go_wp2
    go_ret
    exact ⟨rfl, rfl⟩
  by_cases g13 : n = 13
  · subst g13
    go_enter Tryz.func18, Tryz.ntmps18
    go_wp2
    go_ret
    exact ⟨rfl, rfl⟩
  by_cases g32 : n = 32
  · subst g32
    go_enter Tryz.func18, Tryz.ntmps18
    go_wp2
    go_ret
    exact ⟨rfl, rfl⟩
  have hf : whiB n = false := decide_eq_false (by omega)
  rw [hf]
  have k9 : (((n : Nat) : Int) == 9) = false := by simp; omega
  have k10 : (((n : Nat) : Int) == 10) = false := by simp; omega
  have k13 : (((n : Nat) : Int) == 13) = false := by simp; omega
  have k32 : (((n : Nat) : Int) == 32) = false := by simp; omega
  clear hf g9 g10 g13 g32
  go_enter Tryz.func18, Tryz.ntmps18
  go_wp2
  go_ret
  exact ⟨rfl, rfl⟩
theorem whi_eq (c : UInt8) : whiB c.toNat = whites.contains c := all_bytes (p := fun c => whiB c.toNat = whites.contains c) (by decide +kernel) c
theorem fig_eq (c : UInt8) : decide (48 ≤ c.toNat ∧ c.toNat ≤ 57) = figs.contains c := all_bytes (p := fun c => decide (48 ≤ c.toNat ∧ c.toNat ≤ 57) = figs.contains c) (by decide +kernel) c
theorem let_eq (c : UInt8) : letB c.toNat = lets.contains c := all_bytes (p := fun c => letB c.toNat = lets.contains c) (by decide +kernel) c
theorem nm_eq (c : UInt8) : nmB c = (lets ++ figs).contains c := all_bytes (p := fun c => nmB c = (lets ++ figs).contains c) (by decide +kernel) c

def rquoV (at_ : Nat) : Option (Bs × Nat) → Value
  | none => .tuple #[.string ⟨#[]⟩, .int .i64 (-1)]
  | some p => .tuple #[.string (bs p.1), .int .i64 ((at_ + 1 + p.2 : Nat) : Int)]
theorem ext_one (s : ByteArray) (k k1 : Nat) (h : k < s.size) (h1 : k + 1 = k1) : (s.extract k k1).data.toList = [s[k]] := by
  subst h1
  rw [ByteArray.data_extract, Array.toList_extract, List.extract_eq_take_drop, byte_drop s k h]
  rw [show k + 1 - k = 1 by omega]
  rfl
theorem app_one (q e : ByteArray) (o : Bs) (y : UInt8) (hq : q.data.toList = o) (he : e.data.toList = [y]) : (q ++ e).data.toList = o ++ [y] := by
  rw [ByteArray.data_append, Array.toList_append, hq, he]

set_option maxHeartbeats 4000000 in
set_option maxRecDepth 100000 in
theorem rquoted_any (s : ByteArray) (p : Nat) (hp : p < s.size) (hs : s.size ≤ 4000000) (R : Value) (hR : rquoV p (qS (s.data.toList.drop (p + 1))) = R) (w : World) :
    Calls Tryz.prog 39 #[.string s, .int .i64 (p : Int)] w fun e w' => e = .returned R ∧ w = w' := by
  obtain ⟨p1, hp1⟩ : ∃ p1, p + 1 = p1 := ⟨_, rfl⟩
  rw [hp1] at hR
  have HR := Lib.hid hR
  have Hp := Lib.hid hp1
  have ki0 : (p : Int) + 1 = (p1 : Int) := by omega
  have kw0 : IntKind.i64.wrap (p1 : Int) = (p1 : Int) := IntWalk.i64_in _ (by omega)
  have hp1s : p1 ≤ s.size := by omega
  clear hR hp1
  go_enter Tryz.func39, Tryz.ntmps39
  go_wp2_with fail
  go_loop [7, 6] (fun i q => ∃ (k : Nat) (o : Bs) (qq : ByteArray), p1 ≤ k ∧ k ≤ s.size ∧ i = .int .i64 (k : Int) ∧ q = .string qq ∧ qq.size ≤ k ∧ Hid (qq.data.toList = o ∧ qS (s.data.toList.drop p1) = (qS (s.data.toList.drop k)).map fun r => (o ++ r.1, r.2 + (k - p1)))) (fun i _ => s.size - (intOf i).toNat)
  case atStart => exact ⟨p1, [], ⟨#[]⟩, Nat.le_refl _, hp1s, rfl, rfl, Nat.zero_le _, Lib.hid ⟨rfl, by cases qS (s.data.toList.drop p1) <;> simp⟩⟩
  case round =>
    obtain ⟨k, o, qq, hk1, hk, rfl, rfl, hqs, HQ⟩ := hrel
    by_cases hlt : k < s.size
    · have hd := byte_drop s k hlt
      obtain ⟨y, hy⟩ : ∃ y, s[k] = y := ⟨_, rfl⟩
      rw [hy] at hd
      have hx := qS_cons y (s.data.toList.drop (k + 1))
      rw [← hd] at hx
      obtain ⟨k1, hk1'⟩ : ∃ k1, k + 1 = k1 := ⟨_, rfl⟩
      rw [hk1'] at hx
      have ki : (k : Int) + 1 = (k1 : Int) := by omega
      have kw : IntKind.i64.wrap (k1 : Int) = (k1 : Int) := IntWalk.i64_in _ (by omega)
      have hyv : (((s[k]'hlt).toNat : Nat) : Int) = ((y.toNat : Nat) : Int) := by rw [hy]
      by_cases h34 : y = 34
      · rw [if_pos h34] at hx
        have hq := HQ.out.2
        rw [hx] at hq
        have HE : Hid (R = .tuple #[.string qq, .int .i64 (k1 : Int)]) := by
          refine Lib.hid ?_
          rw [← HR.out, hq]
          show Value.tuple #[.string (bs (o ++ [])), .int .i64 ((p + 1 + (1 + (k - p1)) : Nat) : Int)] = _
          rw [List.append_nil, ← bs_of HQ.out.1, show p + 1 + (1 + (k - p1)) = k1 by have := Hp.out; omega]
        have y1 : ((y.toNat : Nat) : Int) = 34 := by rw [h34]; rfl
        rw [y1] at hyv
        clear hx hd h34 hq hy y1 hk1'
        go_wp2_with fail
        go_returns
        exact ⟨by rw [HE.out]; rfl, rfl⟩
      · rw [if_neg h34] at hx
        have x0 : ¬ ((y.toNat : Nat) : Int) = 34 := fun e => h34 (UInt8.toNat_inj.1 (by rw [show (34 : UInt8).toNat = 34 from rfl]; omega))
        by_cases h92 : y = 92
        · rw [if_pos h92] at hx
          have y1 : ((y.toNat : Nat) : Int) = 92 := by rw [h92]; rfl
          by_cases hlt2 : k1 < s.size
          · have hd2 := byte_drop s k1 hlt2
            obtain ⟨z, hz⟩ : ∃ z, s[k1] = z := ⟨_, rfl⟩
            rw [hz] at hd2
            rw [hd2] at hx
            simp only at hx
            obtain ⟨k2, hk2'⟩ : ∃ k2, k1 + 1 = k2 := ⟨_, rfl⟩
            rw [hk2'] at hx hd2
            have ki2 : (k1 : Int) + 1 = (k2 : Int) := by omega
            have kw2 : IntKind.i64.wrap (k2 : Int) = (k2 : Int) := IntWalk.i64_in _ (by omega)
            have hzv : (((s[k1]'hlt2).toNat : Nat) : Int) = ((z.toNat : Nat) : Int) := by rw [hz]
            have kge : ¬ (s.size : Int) ≤ (k1 : Int) := by omega
            by_cases hzz : z = 34 ∨ z = 92
            · rw [if_pos hzz] at hx
              have hq := HQ.out.2
              rw [hx] at hq
              have HQ2 : qS (s.data.toList.drop p1) = (qS (s.data.toList.drop k2)).map fun r => ((o ++ [z]) ++ r.1, r.2 + (k2 - p1)) := by
                rw [hq]
                cases qS (s.data.toList.drop k2) with
                | none => rfl
                | some r =>
                  simp only [Option.map_some, List.append_assoc, List.singleton_append]
                  congr 2
                  omega
              obtain ⟨e, he⟩ : ∃ e, s.extract k1 k2 = e := ⟨_, rfl⟩
              have hel : e.data.toList = [z] := by rw [← he, ext_one s k1 k2 hlt2 hk2', hz]
              have hes : e.size = 1 := by rw [← size_list, hel]; rfl
              obtain ⟨q2, hq2⟩ : ∃ q2, qq ++ e = q2 := ⟨_, rfl⟩
              have hq2l : q2.data.toList = o ++ [z] := by rw [← hq2]; exact app_one qq e o z HQ.out.1 hel
              have hq2s : q2.size = qq.size + 1 := by rw [← hq2, ByteArray.size_append, hes]
              have HH := Lib.hid (And.intro hq2l HQ2)
              have k2i : (k2 : Int) ≤ (s.size : Int) := by omega
              have hq2k : Hid (q2.size ≤ k2) := Lib.hid (by omega)
              have hsz2 : qq.size + e.size ≤ 9223372036854775807 := by omega
              have hk2p : Hid (p1 ≤ k2 ∧ k2 ≤ s.size ∧ k < k2) := Lib.hid ⟨by omega, by omega, by omega⟩
              rw [y1] at hyv x0
              rcases hzz with hzz | hzz
              · have z1 : ((z.toNat : Nat) : Int) = 34 := by rw [hzz]; rfl
                rw [z1] at hzv
                clear hx hd hd2 h34 hq hy y1 hk1' hk2' h92 hz hzz z1 hel hq2l hq2s HQ2 hes
                go_wp2_with fail
                go_round
                case rel => exact ⟨k2, o ++ [z], q2, hk2p.out.1, hk2p.out.2.1, by go_num, rfl, hq2k.out, HH⟩
                case measure => have := hk2p.out; simp [intOf]; omega
              · have z1 : ((z.toNat : Nat) : Int) = 92 := by rw [hzz]; rfl
                rw [z1] at hzv
                clear hx hd hd2 h34 hq hy y1 hk1' hk2' h92 hz hzz z1 hel hq2l hq2s HQ2 hes
                go_wp2_with fail
                go_round
                case rel => exact ⟨k2, o ++ [z], q2, hk2p.out.1, hk2p.out.2.1, by go_num, rfl, hq2k.out, HH⟩
                case measure => have := hk2p.out; simp [intOf]; omega
            · rw [if_neg hzz] at hx
              have hq := HQ.out.2
              rw [hx] at hq
              have HE : Hid (R = .tuple #[.string ⟨#[]⟩, .int .i64 (-1)]) := Lib.hid (by rw [← HR.out, hq]; rfl)
              have b1 : (((z.toNat : Nat) : Int) != 34) = true := by simpa using fun e => hzz (.inl (UInt8.toNat_inj.1 (by rw [show (34 : UInt8).toNat = 34 from rfl]; omega)))
              have b2 : (((z.toNat : Nat) : Int) != 92) = true := by simpa using fun e => hzz (.inr (UInt8.toNat_inj.1 (by rw [show (92 : UInt8).toNat = 92 from rfl]; omega)))
              rw [y1] at hyv x0
              clear hx hd hd2 h34 hq hy y1 hk1' hk2' h92 hz hzz
              go_wp2_with fail
              go_returns
              exact ⟨by rw [HE.out]; rfl, rfl⟩
          · rw [drop_end s k1 (by omega)] at hx
            have hq := HQ.out.2
            rw [hx] at hq
            have HE : Hid (R = .tuple #[.string ⟨#[]⟩, .int .i64 (-1)]) := Lib.hid (by rw [← HR.out, hq]; rfl)
            have kge : (s.size : Int) ≤ (k1 : Int) := by omega
            rw [y1] at hyv x0
            clear hx hd h34 hq hy y1 hk1' h92 hlt2
            go_wp2_with fail
            go_returns
            exact ⟨by rw [HE.out]; rfl, rfl⟩
        · rw [if_neg h92] at hx
          have hq := HQ.out.2
          rw [hx] at hq
          have HQ2 : qS (s.data.toList.drop p1) = (qS (s.data.toList.drop k1)).map fun r => ((o ++ [y]) ++ r.1, r.2 + (k1 - p1)) := by
            rw [hq]
            cases qS (s.data.toList.drop k1) with
            | none => rfl
            | some r =>
              simp only [Option.map_some, List.append_assoc, List.singleton_append]
              congr 2
              omega
          have x1 : ¬ ((y.toNat : Nat) : Int) = 92 := fun e => h92 (UInt8.toNat_inj.1 (by rw [show (92 : UInt8).toNat = 92 from rfl]; omega))
          obtain ⟨e, he⟩ : ∃ e, s.extract k k1 = e := ⟨_, rfl⟩
          have hel : e.data.toList = [y] := by rw [← he, ext_one s k k1 hlt hk1', hy]
          have hes : e.size = 1 := by rw [← size_list, hel]; rfl
          obtain ⟨q2, hq2⟩ : ∃ q2, qq ++ e = q2 := ⟨_, rfl⟩
          have hq2l : q2.data.toList = o ++ [y] := by rw [← hq2]; exact app_one qq e o y HQ.out.1 hel
          have hq2s : q2.size = qq.size + 1 := by rw [← hq2, ByteArray.size_append, hes]
          have HH := Lib.hid (And.intro hq2l HQ2)
          have k1i : (k1 : Int) ≤ (s.size : Int) := by omega
          have hq2k : Hid (q2.size ≤ k1) := Lib.hid (by omega)
          have hsz2 : qq.size + e.size ≤ 9223372036854775807 := by omega
          have hk1p : Hid (p1 ≤ k1 ∧ k1 ≤ s.size ∧ k < k1) := Lib.hid ⟨by omega, by omega, by omega⟩
          clear hx hd h34 hq hy hk1' h92 hel hq2l hq2s HQ2 hes
          go_wp2_with fail
          go_round
          case rel => exact ⟨k1, o ++ [y], q2, hk1p.out.1, hk1p.out.2.1, by go_num, rfl, hq2k.out, HH⟩
          case measure => have := hk1p.out; simp [intOf]; omega
    · obtain rfl : k = s.size := by omega
      have hq := HQ.out.2
      rw [drop_end s _ (Nat.le_refl _)] at hq
      have HE : Hid (R = .tuple #[.string ⟨#[]⟩, .int .i64 (-1)]) := Lib.hid (by rw [← HR.out, hq]; rfl)
      clear hq
      go_wp2_with fail
      go_returns
      exact ⟨by rw [HE.out]; rfl, rfl⟩

def nmK : Nat → Bs → Bool
  | _, [] => true
  | k, c :: r => (letB c.toNat || (!(k == 0) && decide (48 ≤ c.toNat ∧ c.toNat ≤ 57))) && nmK (k + 1) r
theorem nmK_all (k : Nat) (l : Bs) : nmK (k + 1) l = l.all nmB := by
  induction l generalizing k with
  | nil => rfl
  | cons c r ih => rw [nmK, List.all_cons, ih]; simp [nmB]
theorem nameB_nmK (c : UInt8) (r : Bs) : nameB (c :: r) = (decide ((c :: r).length ≤ 32) && nmK 0 (c :: r)) := by
  rw [nameB_cons, nmK, nmK_all, List.all_cons]
  cases h : letB c.toNat <;> simp [nmB, h]
theorem nmK_cons (k : Nat) (c : UInt8) (r : Bs) : nmK k (c :: r) = ((letB c.toNat || (!(k == 0) && decide (48 ≤ c.toNat ∧ c.toNat ≤ 57))) && nmK (k + 1) r) := rfl

set_option maxHeartbeats 8000000 in
set_option maxRecDepth 100000 in
theorem rname_any (s : ByteArray) (l : Bs) (hl : s.data.toList = l) (b : Bool) (hb : nameB l = b) (w : World) : Calls Tryz.prog 23 #[.string s] w fun e w' => e = .returned (.bool b) ∧ w = w' := by
  have hll : l.length = s.size := by rw [← hl, size_list]
  by_cases h0 : s.size = 0
  · have hl0 : l = [] := List.eq_nil_of_length_eq_zero (by omega)
    subst hl0
    have hs : s = ⟨#[]⟩ := by
      apply ByteArray.ext
      apply Array.toList_inj.1
      rw [hl]
    subst hs
    obtain rfl : b = false := hb.symm
    clear hl hb h0
    go_enter Tryz.func23, Tryz.ntmps23
    go_wp2
    go_ret
    exact ⟨rfl, rfl⟩
  · obtain ⟨c, r, hcr⟩ : ∃ c r, l = c :: r := by
      cases l with
      | nil => rw [List.length_nil] at hll; omega
      | cons c r => exact ⟨c, r, rfl⟩
    have hp0 : 0 < s.size := by omega
    have hne : s.toList.isEmpty = false := by rw [Lib.toList_data, hl, hcr]; rfl
    by_cases h32 : 32 < s.size
    · have hb' : b = false := by rw [← hb, hcr]; rw [nameB_cons, decide_eq_false (show ¬ (c :: r).length ≤ 32 by rw [← hcr]; omega)]; rfl
      subst hb'
      have h32i : (32 : Int) < (s.size : Int) := by omega
      clear hl hb hcr hll
      go_enter Tryz.func23, Tryz.ntmps23
      go_wp2
      go_ret
      exact ⟨rfl, rfl⟩
    have h32i : ¬ (32 : Int) < (s.size : Int) := by omega
    have HB : Hid (nmK 0 s.data.toList = b) := Lib.hid (by
      rw [hl, ← hb, hcr, nameB_nmK, decide_eq_true (show (c :: r).length ≤ 32 by rw [← hcr]; omega), Bool.true_and])
    clear hl hb hcr hll
    go_enter Tryz.func23, Tryz.ntmps23
    go_wp2_with fail
    go_loop [3] (fun i => ∃ k : Nat, k ≤ s.size ∧ i = .int .i64 (k : Int) ∧ Hid (nmK k (s.data.toList.drop k) = b)) (fun i => s.size - (intOf i).toNat)
    case atStart => exact ⟨0, by omega, rfl, Lib.hid (by rw [List.drop_zero]; exact HB.out)⟩
    case round =>
      obtain ⟨k, hk, rfl, HK⟩ := hrel
      by_cases hlt : k < s.size
      · have hd := byte_drop s k hlt
        have hst := HK.out
        rw [hd, nmK_cons] at hst
        obtain ⟨y, hy⟩ : ∃ y, s[k]'hlt = y := ⟨_, rfl⟩
        have hyv : (((s[k]'hlt).toNat : Nat) : Int) = ((y.toNat : Nat) : Int) := by rw [hy]
        rw [hy] at hst
        obtain ⟨n, hn⟩ : ∃ n, y.toNat = n := ⟨_, rfl⟩
        rw [hn] at hst hyv
        clear hd hy hn
        by_cases g1 : 97 ≤ n ∧ n ≤ 122
        · obtain ⟨g1, g2⟩ := g1
          have HK2 : Hid (nmK (k + 1) (s.data.toList.drop (k + 1)) = b) := Lib.hid (by
            rw [← hst, show letB n = true from decide_eq_true (by omega)]; rfl)
          have f0 : (97 : Int) ≤ (n : Int) := by omega
          have f1 : (n : Int) ≤ 122 := by omega
          clear hst
          go_wp2_with fail
          go_round
          case rel => exact ⟨k + 1, by omega, by go_num, HK2⟩
          case measure => simp [intOf]; omega
        by_cases g2 : 65 ≤ n ∧ n ≤ 90
        · obtain ⟨g2, g3⟩ := g2
          have HK2 : Hid (nmK (k + 1) (s.data.toList.drop (k + 1)) = b) := Lib.hid (by
            rw [← hst, show letB n = true from decide_eq_true (by omega)]; rfl)
          have f0 : ¬ (97 : Int) ≤ (n : Int) := by omega
          have f1 : (65 : Int) ≤ (n : Int) := by omega
          have f2 : (n : Int) ≤ 90 := by omega
          clear g1
          clear hst
          go_wp2_with fail
          go_round
          case rel => exact ⟨k + 1, by omega, by go_num, HK2⟩
          case measure => simp [intOf]; omega
        by_cases g3 : n = 95
        · subst g3
          have HK2 : Hid (nmK (k + 1) (s.data.toList.drop (k + 1)) = b) := Lib.hid (by
            rw [← hst, show letB 95 = true from decide_eq_true (by decide)]; rfl)
          clear g1 g2
          clear hst
          go_wp2_with fail
          go_round
          case rel => exact ⟨k + 1, by omega, by go_num, HK2⟩
          case measure => simp [intOf]; omega
        have hlf : letB n = false := decide_eq_false (by omega)
        rw [hlf, Bool.false_or] at hst
        clear hlf
        by_cases hk0 : k = 0
        · subst hk0
          have Hst : Hid (false = b) := Lib.hid hst
          clear hst
          by_cases ca : n < 48
          · have f0 : ¬ (97 : Int) ≤ (n : Int) := by omega
            have f1 : ¬ (65 : Int) ≤ (n : Int) := by omega
            have f2 : ((n : Int) == 95) = false := by simp; omega
            have f3 : (n : Int) < 48 := by omega
            clear g1 g2 g3 ca
            go_wp2_with fail
            go_ret
            exact ⟨by rw [← Hst.out]; rfl, rfl⟩
          by_cases cd : 48 ≤ n ∧ n ≤ 57
          · have f0 : ¬ (97 : Int) ≤ (n : Int) := by omega
            have f1 : ¬ (65 : Int) ≤ (n : Int) := by omega
            have f2 : ((n : Int) == 95) = false := by simp; omega
            have f3 : ¬ (n : Int) < 48 := by omega
            have f4 : ¬ (57 : Int) < (n : Int) := by omega
            clear g1 g2 g3 cd
            go_wp2_with fail
            go_ret
            exact ⟨by rw [← Hst.out]; rfl, rfl⟩
          by_cases ce : 58 ≤ n ∧ n < 65
          · have f0 : ¬ (97 : Int) ≤ (n : Int) := by omega
            have f1 : ¬ (65 : Int) ≤ (n : Int) := by omega
            have f2 : ((n : Int) == 95) = false := by simp; omega
            have f3 : ¬ (n : Int) < 48 := by omega
            have f4 : (57 : Int) < (n : Int) := by omega
            clear g1 g2 g3 ce
            go_wp2_with fail
            go_ret
            exact ⟨by rw [← Hst.out]; rfl, rfl⟩
          by_cases cf : 91 ≤ n ∧ n < 97
          · have f0 : ¬ (97 : Int) ≤ (n : Int) := by omega
            have f1 : (65 : Int) ≤ (n : Int) := by omega
            have f2 : ¬ (n : Int) ≤ 90 := by omega
            have f3 : ((n : Int) == 95) = false := by simp; omega
            have f4 : ¬ (n : Int) < 48 := by omega
            have f5 : (57 : Int) < (n : Int) := by omega
            clear g1 g2 g3 cf
            go_wp2_with fail
            go_ret
            exact ⟨by rw [← Hst.out]; rfl, rfl⟩
          by_cases cg : 123 ≤ n
          · have f0 : (97 : Int) ≤ (n : Int) := by omega
            have f1 : ¬ (n : Int) ≤ 122 := by omega
            have f2 : (65 : Int) ≤ (n : Int) := by omega
            have f3 : ¬ (n : Int) ≤ 90 := by omega
            have f4 : ((n : Int) == 95) = false := by simp; omega
            have f5 : ¬ (n : Int) < 48 := by omega
            have f6 : (57 : Int) < (n : Int) := by omega
            clear g1 g2 g3 cg
            go_wp2_with fail
            go_ret
            exact ⟨by rw [← Hst.out]; rfl, rfl⟩
          omega
        have hk1 : ((k : Int) == 0) = false := by simp; omega
        have hkb : (k == 0) = false := by simpa using hk0
        rw [hkb, Bool.not_false, Bool.true_and] at hst
        clear hkb
        by_cases ca : n < 48
        · have f0 : ¬ (97 : Int) ≤ (n : Int) := by omega
          have f1 : ¬ (65 : Int) ≤ (n : Int) := by omega
          have f2 : ((n : Int) == 95) = false := by simp; omega
          have f3 : (n : Int) < 48 := by omega
          have Hst : Hid (false = b) := Lib.hid (by rw [decide_eq_false (by omega), Bool.false_and] at hst; exact hst)
          clear hst g1 g2 g3 ca
          go_wp2_with fail
          go_ret
          exact ⟨by rw [← Hst.out]; rfl, rfl⟩
        by_cases cd : 48 ≤ n ∧ n ≤ 57
        · have f0 : ¬ (97 : Int) ≤ (n : Int) := by omega
          have f1 : ¬ (65 : Int) ≤ (n : Int) := by omega
          have f2 : ((n : Int) == 95) = false := by simp; omega
          have f3 : ¬ (n : Int) < 48 := by omega
          have f4 : ¬ (57 : Int) < (n : Int) := by omega
          have HK2 : Hid (nmK (k + 1) (s.data.toList.drop (k + 1)) = b) := Lib.hid (by
            rw [← hst, decide_eq_true cd]; rfl)
          clear g1 g2 g3 cd
          clear hst
          go_wp2_with fail
          go_round
          case rel => exact ⟨k + 1, by omega, by go_num, HK2⟩
          case measure => simp [intOf]; omega
        by_cases ce : 58 ≤ n ∧ n < 65
        · have f0 : ¬ (97 : Int) ≤ (n : Int) := by omega
          have f1 : ¬ (65 : Int) ≤ (n : Int) := by omega
          have f2 : ((n : Int) == 95) = false := by simp; omega
          have f3 : ¬ (n : Int) < 48 := by omega
          have f4 : (57 : Int) < (n : Int) := by omega
          have Hst : Hid (false = b) := Lib.hid (by rw [decide_eq_false (by omega), Bool.false_and] at hst; exact hst)
          clear hst g1 g2 g3 ce
          go_wp2_with fail
          go_ret
          exact ⟨by rw [← Hst.out]; rfl, rfl⟩
        by_cases cf : 91 ≤ n ∧ n < 97
        · have f0 : ¬ (97 : Int) ≤ (n : Int) := by omega
          have f1 : (65 : Int) ≤ (n : Int) := by omega
          have f2 : ¬ (n : Int) ≤ 90 := by omega
          have f3 : ((n : Int) == 95) = false := by simp; omega
          have f4 : ¬ (n : Int) < 48 := by omega
          have f5 : (57 : Int) < (n : Int) := by omega
          have Hst : Hid (false = b) := Lib.hid (by rw [decide_eq_false (by omega), Bool.false_and] at hst; exact hst)
          clear hst g1 g2 g3 cf
          go_wp2_with fail
          go_ret
          exact ⟨by rw [← Hst.out]; rfl, rfl⟩
        by_cases cg : 123 ≤ n
        · have f0 : (97 : Int) ≤ (n : Int) := by omega
          have f1 : ¬ (n : Int) ≤ 122 := by omega
          have f2 : (65 : Int) ≤ (n : Int) := by omega
          have f3 : ¬ (n : Int) ≤ 90 := by omega
          have f4 : ((n : Int) == 95) = false := by simp; omega
          have f5 : ¬ (n : Int) < 48 := by omega
          have f6 : (57 : Int) < (n : Int) := by omega
          have Hst : Hid (false = b) := Lib.hid (by rw [decide_eq_false (by omega), Bool.false_and] at hst; exact hst)
          clear hst g1 g2 g3 cg
          go_wp2_with fail
          go_ret
          exact ⟨by rw [← Hst.out]; rfl, rfl⟩
        omega
      · obtain rfl : k = s.size := by omega
        have hst := HK.out
        rw [drop_end s _ (Nat.le_refl _)] at hst
        have Hst : Hid (true = b) := Lib.hid hst
        clear hst
        go_wp2
        go_ret
        exact ⟨by rw [← Hst.out]; rfl, rfl⟩

theorem str_eq (s : ByteArray) (l q : Bs) (hl : s.data.toList = l) : (s.toList == q) = (l == q) := by rw [Lib.toList_data, hl]
set_option maxHeartbeats 4000000 in
set_option maxRecDepth 100000 in
theorem rword_any (s : ByteArray) (l : Bs) (hl : s.data.toList = l) (b : Bool) (hb : wordB l = b) (w : World) : Calls Tryz.prog 13 #[.string s] w fun e w' => e = .returned (.bool b) ∧ w = w' := by
  have HN := Lib.hid (fun b hb W => rname_any s l hl b hb W)
  have e0 := str_eq s l [110, 117, 108, 108] hl
  by_cases h0 : l = [110, 117, 108, 108]
  · have hb2 : false = b := by rw [← hb, h0]; rfl
    have Hb := Lib.hid hb2
    rw [show (l == [110, 117, 108, 108]) = true by rw [h0]; rfl] at e0
    clear hl hb hb2 h0 HN
    go_enter Tryz.func13, Tryz.ntmps13
    go_wp2_with fail
    go_ret
    exact ⟨by rw [← Hb.out]; rfl, rfl⟩
  rw [show (l == [110, 117, 108, 108]) = false by simpa using h0] at e0
  have e1 := str_eq s l [116, 114, 117, 101] hl
  by_cases h1 : l = [116, 114, 117, 101]
  · have hb2 : false = b := by rw [← hb, h1]; rfl
    have Hb := Lib.hid hb2
    rw [show (l == [116, 114, 117, 101]) = true by rw [h1]; rfl] at e1
    clear hl hb hb2 h1 HN h0
    go_enter Tryz.func13, Tryz.ntmps13
    go_wp2_with fail
    go_ret
    exact ⟨by rw [← Hb.out]; rfl, rfl⟩
  rw [show (l == [116, 114, 117, 101]) = false by simpa using h1] at e1
  have e2 := str_eq s l [102, 97, 108, 115, 101] hl
  by_cases h2 : l = [102, 97, 108, 115, 101]
  · have hb2 : false = b := by rw [← hb, h2]; rfl
    have Hb := Lib.hid hb2
    rw [show (l == [102, 97, 108, 115, 101]) = true by rw [h2]; rfl] at e2
    clear hl hb hb2 h2 HN h0 h1
    go_enter Tryz.func13, Tryz.ntmps13
    go_wp2_with fail
    go_ret
    exact ⟨by rw [← Hb.out]; rfl, rfl⟩
  rw [show (l == [102, 97, 108, 115, 101]) = false by simpa using h2] at e2
  have e3 := str_eq s l [97, 110, 100] hl
  by_cases h3 : l = [97, 110, 100]
  · have hb2 : false = b := by rw [← hb, h3]; rfl
    have Hb := Lib.hid hb2
    rw [show (l == [97, 110, 100]) = true by rw [h3]; rfl] at e3
    clear hl hb hb2 h3 HN h0 h1 h2
    go_enter Tryz.func13, Tryz.ntmps13
    go_wp2_with fail
    go_ret
    exact ⟨by rw [← Hb.out]; rfl, rfl⟩
  rw [show (l == [97, 110, 100]) = false by simpa using h3] at e3
  have e4 := str_eq s l [111, 114] hl
  by_cases h4 : l = [111, 114]
  · have hb2 : false = b := by rw [← hb, h4]; rfl
    have Hb := Lib.hid hb2
    rw [show (l == [111, 114]) = true by rw [h4]; rfl] at e4
    clear hl hb hb2 h4 HN h0 h1 h2 h3
    go_enter Tryz.func13, Tryz.ntmps13
    go_wp2_with fail
    go_ret
    exact ⟨by rw [← Hb.out]; rfl, rfl⟩
  rw [show (l == [111, 114]) = false by simpa using h4] at e4
  have e5 := str_eq s l [110, 111, 116] hl
  by_cases h5 : l = [110, 111, 116]
  · have hb2 : false = b := by rw [← hb, h5]; rfl
    have Hb := Lib.hid hb2
    rw [show (l == [110, 111, 116]) = true by rw [h5]; rfl] at e5
    clear hl hb hb2 h5 HN h0 h1 h2 h3 h4
    go_enter Tryz.func13, Tryz.ntmps13
    go_wp2_with fail
    go_ret
    exact ⟨by rw [← Hb.out]; rfl, rfl⟩
  rw [show (l == [110, 111, 116]) = false by simpa using h5] at e5
  have e6 := str_eq s l [105, 102] hl
  by_cases h6 : l = [105, 102]
  · have hb2 : false = b := by rw [← hb, h6]; rfl
    have Hb := Lib.hid hb2
    rw [show (l == [105, 102]) = true by rw [h6]; rfl] at e6
    clear hl hb hb2 h6 HN h0 h1 h2 h3 h4 h5
    go_enter Tryz.func13, Tryz.ntmps13
    go_wp2_with fail
    go_ret
    exact ⟨by rw [← Hb.out]; rfl, rfl⟩
  rw [show (l == [105, 102]) = false by simpa using h6] at e6
  have e7 := str_eq s l [116, 104, 101, 110] hl
  by_cases h7 : l = [116, 104, 101, 110]
  · have hb2 : false = b := by rw [← hb, h7]; rfl
    have Hb := Lib.hid hb2
    rw [show (l == [116, 104, 101, 110]) = true by rw [h7]; rfl] at e7
    clear hl hb hb2 h7 HN h0 h1 h2 h3 h4 h5 h6
    go_enter Tryz.func13, Tryz.ntmps13
    go_wp2_with fail
    go_ret
    exact ⟨by rw [← Hb.out]; rfl, rfl⟩
  rw [show (l == [116, 104, 101, 110]) = false by simpa using h7] at e7
  have e8 := str_eq s l [101, 108, 115, 101] hl
  by_cases h8 : l = [101, 108, 115, 101]
  · have hb2 : false = b := by rw [← hb, h8]; rfl
    have Hb := Lib.hid hb2
    rw [show (l == [101, 108, 115, 101]) = true by rw [h8]; rfl] at e8
    clear hl hb hb2 h8 HN h0 h1 h2 h3 h4 h5 h6 h7
    go_enter Tryz.func13, Tryz.ntmps13
    go_wp2_with fail
    go_ret
    exact ⟨by rw [← Hb.out]; rfl, rfl⟩
  rw [show (l == [101, 108, 115, 101]) = false by simpa using h8] at e8
  have hnl : wordsL.contains l = false := by
    have : l ∉ wordsL := by
      unfold wordsL
      simp only [List.mem_cons, List.not_mem_nil, or_false, not_or]
      exact ⟨h0, h1, h2, h3, h4, h5, h6, h7, h8⟩
    simpa using this
  have hb2 : nameB l = b := by rw [← hb]; unfold wordB; rw [hnl, Bool.not_false, Bool.and_true]
  have HN2 := Lib.hid (fun W => HN.out b hb2 W)
  clear hl hb hb2 hnl h0 h1 h2 h3 h4 h5 h6 h7 h8 HN
  go_enter Tryz.func13, Tryz.ntmps13
  go_wp2_with fail
  refine (HN2.out _).mono ?_
  rintro _ _ ⟨rfl, rfl⟩
  go_wp2_with fail
  go_ret
  exact ⟨rfl, rfl⟩
end Go.Proofs.YtambpkkllgppdaaGreatDoor

namespace Go.Proofs.YtambpkkllgppdaaGreatDoor
open Go.RowKit

set_option maxHeartbeats 1000000 in
theorem rsign_any (r : Int) (b : Bool) (hb : mayB r = b) (w : World) : Calls Tryz.prog 132 #[.int .i64 r] w fun e w' => e = .returned (.bool b) ∧ w = w' := by
  subst hb
  by_cases h1 : r = 9
  · subst h1
    go_enter Tryz.func132, Tryz.ntmps132
    go_wp2
    go_ret
    exact ⟨rfl, rfl⟩
  by_cases h2 : r = 10
  · subst h2
    go_enter Tryz.func132, Tryz.ntmps132
    go_wp2
    go_ret
    exact ⟨rfl, rfl⟩
  by_cases h3 : r = 13
  · subst h3
    go_enter Tryz.func132, Tryz.ntmps132
    go_wp2
    go_ret
    exact ⟨rfl, rfl⟩
  have e1 : (r == 9) = false := by simpa using h1
  have e2 : (r == 10) = false := by simpa using h2
  have e3 : (r == 13) = false := by simpa using h3
  have hm : mayB r = (decide (32 ≤ r ∧ r ≤ 55295) || decide (57344 ≤ r ∧ r ≤ 65533) || decide (65536 ≤ r ∧ r ≤ 1114111)) := by
    unfold mayB
    simp [h1, h2, h3, Bool.or_assoc]
  rw [hm]
  by_cases g1 : 32 ≤ r ∧ r ≤ 55295
  · rw [decide_eq_true g1]
    obtain ⟨g1, g2⟩ := g1
    clear hm h1 h2 h3
    go_enter Tryz.func132, Tryz.ntmps132
    go_wp2
    go_ret
    exact ⟨rfl, rfl⟩
  by_cases g2 : 57344 ≤ r ∧ r ≤ 65533
  · rw [decide_eq_false g1, decide_eq_true g2]
    obtain ⟨g2, g3⟩ := g2
    have g4 : ¬ r ≤ 55295 := by omega
    have g5 : 32 ≤ r := by omega
    clear hm h1 h2 h3 g1
    go_enter Tryz.func132, Tryz.ntmps132
    go_wp2
    go_ret
    exact ⟨rfl, rfl⟩
  by_cases g3 : 65536 ≤ r ∧ r ≤ 1114111
  · rw [decide_eq_false g1, decide_eq_false g2, decide_eq_true g3]
    obtain ⟨g6, g7⟩ := g3
    have g4 : ¬ r ≤ 55295 := by omega
    have g5 : 32 ≤ r := by omega
    have g8 : 57344 ≤ r := by omega
    have g9 : ¬ r ≤ 65533 := by omega
    clear hm h1 h2 h3 g1 g2
    go_enter Tryz.func132, Tryz.ntmps132
    go_wp2
    go_ret
    exact ⟨rfl, rfl⟩
  · rw [decide_eq_false g1, decide_eq_false g2, decide_eq_false g3]
    clear hm h1 h2 h3
    by_cases k1 : r < 32
    · have k2 : ¬ 32 ≤ r := by omega
      have k3 : ¬ 57344 ≤ r := by omega
      have k4 : ¬ 65536 ≤ r := by omega
      clear g1 g2 g3
      go_enter Tryz.func132, Tryz.ntmps132
      go_wp2
      go_ret
      exact ⟨rfl, rfl⟩
    · have k2 : 32 ≤ r := by omega
      have k3 : ¬ r ≤ 55295 := by omega
      by_cases k4 : r < 57344
      · have k5 : ¬ 57344 ≤ r := by omega
        have k6 : ¬ 65536 ≤ r := by omega
        clear g1 g2 g3
        go_enter Tryz.func132, Tryz.ntmps132
        go_wp2
        go_ret
        exact ⟨rfl, rfl⟩
      · have k5 : 57344 ≤ r := by omega
        have k6 : ¬ r ≤ 65533 := by omega
        by_cases k7 : r < 65536
        · have k8 : ¬ 65536 ≤ r := by omega
          clear g1 g2 g3
          go_enter Tryz.func132, Tryz.ntmps132
          go_wp2
          go_ret
          exact ⟨rfl, rfl⟩
        · have k8 : 65536 ≤ r := by omega
          have k9 : ¬ r ≤ 1114111 := by omega
          clear g1 g2 g3
          go_enter Tryz.func132, Tryz.ntmps132
          go_wp2
          go_ret
          exact ⟨rfl, rfl⟩


theorem mayB_nat (r : Nat) : mayB (r : Int) = decide (mayP r) := by
  unfold mayB mayP
  exact decide_eq_decide.2 (by omega)

/-- The byte at a place, 0 behind the end. -/
theorem get_in (t : ByteArray) (k : Nat) (h : k < t.size) : t.get! k = t[k]'h := by
  obtain ⟨d⟩ := t
  exact getElem!_pos d k h
theorem get_out (t : ByteArray) (k : Nat) (h : ¬ k < t.size) : t.get! k = default := by
  obtain ⟨d⟩ := t
  exact getElem!_neg d k h
set_option maxHeartbeats 8000000 in
set_option maxRecDepth 100000 in
theorem rfirst_1 (t : ByteArray) (n0 : Nat) (ht : 0 < t.size) (hs : t.size ≤ 4000000) (h0 : (t.get! 0).toNat = n0) (hc : n0 < 128) (R1 R2 : Nat) (hR : firstV t = (R1, R2)) (w : World) :
    Calls Tryz.prog 103 #[.string t] w fun e w' => e = .returned (.tuple #[.int .i64 (R1 : Int), .int .i64 (R2 : Int)]) ∧ w = w' := by
  have hv : (((t[0]'ht).toNat : Nat) : Int) = (n0 : Int) := by rw [← h0, get_in t 0 ht]
  have h256 : n0 < 256 := by rw [← h0]; exact (t.get! 0).toNat_lt
  unfold firstV at hR
  rw [h0] at hR
  rw [if_pos hc] at hR
  have q0 : (n0 : Int) < 128 := by omega
  have qr : n0 < 128 := by omega
  unfold firstL at hR
  by_cases hn : t.size < 1
  · rw [if_pos hn] at hR
    have HR : Hid (R1 = 0 ∧ R2 = 0) := by
      rw [Prod.mk.injEq] at hR
      exact Lib.hid ⟨hR.1.symm, hR.2.symm⟩
    have hni : (t.size : Int) < 1 := by omega
    clear hR hc h0 hn
    go_enter Tryz.func103, Tryz.ntmps103
    go_wp2_with fail
    go_returns
    exact ⟨by rw [HR.out.1, HR.out.2]; rfl, rfl⟩
  rw [if_neg hn] at hR
  have hni : ¬ (t.size : Int) < 1 := by omega
  have HR := Lib.hid hR
  have HS := Lib.hid (fun r b hb W => rsign_any r b hb W)
  clear hR hc h0
  go_enter Tryz.func103, Tryz.ntmps103
  go_wp2_with fail
  go_loop [8, 6] (fun i r => ∃ (k d v : Nat), k + d = 1 ∧ 1 ≤ k ∧ i = .int .i64 (k : Int) ∧ r = .int .i64 (v : Int) ∧ v < 128 * 64 ^ (k - 1) ∧ Hid (firstO 1 0 (contF t d k v) = (R1, R2))) (fun i _ => 1 - (intOf i).toNat)
  case atStart => exact ⟨1, 0, n0, by omega, by omega, rfl, rfl, by simp; omega, HR⟩
  case round =>
    obtain ⟨k, d, v, hkd, hk1, rfl, rfl, hv2, HK⟩ := hrel
    by_cases hlt : k < 1
    · have hlts : k < t.size := by omega
      obtain ⟨d1, rfl⟩ : ∃ d1, d = d1 + 1 := ⟨d - 1, by omega⟩
      have hx := HK.out
      rw [contF] at hx
      obtain ⟨y, hy⟩ : ∃ y, (t.get! k).toNat = y := ⟨_, rfl⟩
      have hyv : (((t[k]'hlts).toNat : Nat) : Int) = (y : Int) := by rw [← hy, get_in t k hlts]
      have hy256 : y < 256 := by rw [← hy]; exact (t.get! k).toNat_lt
      rw [hy] at hx
      clear hy
      have hkl : ((k : Int) < 1) := by omega
      by_cases c1 : y < 128
      · have k1 : (y : Int) < 128 := by omega
        rw [if_pos (.inl c1)] at hx
        have HR2 : Hid (R1 = 0 ∧ R2 = 0) := by
          have hx2 : ((0 : Nat), (0 : Nat)) = (R1, R2) := hx
          rw [Prod.mk.injEq] at hx2
          exact Lib.hid ⟨hx2.1.symm, hx2.2.symm⟩
        clear hx c1
        go_wp2_with fail
        go_returns
        exact ⟨by rw [HR2.out.1, HR2.out.2]; rfl, rfl⟩
      have k1 : ¬ (y : Int) < 128 := by omega
      by_cases c2 : 192 ≤ y
      · have k2 : (192 : Int) ≤ (y : Int) := by omega
        rw [if_pos (.inr c2)] at hx
        have HR2 : Hid (R1 = 0 ∧ R2 = 0) := by
          have hx2 : ((0 : Nat), (0 : Nat)) = (R1, R2) := hx
          rw [Prod.mk.injEq] at hx2
          exact Lib.hid ⟨hx2.1.symm, hx2.2.symm⟩
        clear hx c1 c2
        go_wp2_with fail
        go_returns
        exact ⟨by rw [HR2.out.1, HR2.out.2]; rfl, rfl⟩
      have k2 : ¬ (192 : Int) ≤ (y : Int) := by omega
      rw [if_neg (by omega)] at hx
      obtain ⟨v1, hv1⟩ : ∃ v1, v * 64 + y - 128 = v1 := ⟨_, rfl⟩
      rw [hv1] at hx
      obtain ⟨k1', hk1'⟩ : ∃ k1', k + 1 = k1' := ⟨_, rfl⟩
      rw [hk1'] at hx
      have hp : 64 ^ (k1' - 1) = 64 * 64 ^ (k - 1) := by rw [show k1' - 1 = (k - 1) + 1 by omega, Nat.pow_succ, Nat.mul_comm]
      have hp4 : 64 ^ (k - 1) ≤ 64 ^ 3 := Nat.pow_le_pow_right (by omega) (by omega)
      have hvb : v1 < 128 * 64 ^ (k1' - 1) := by rw [hp]; omega
      have hvl : v < 128 * 64 ^ 3 := by omega
      have w1 : IntKind.i64.wrap ((v : Int) * 64) = (v : Int) * 64 := IntWalk.i64_in _ (by omega)
      have w2 : IntKind.i64.wrap ((v : Int) * 64 + (y : Int)) = (v : Int) * 64 + (y : Int) := IntWalk.i64_in _ (by omega)
      have w3 : IntKind.i64.wrap ((v : Int) * 64 + (y : Int) - 128) = (v1 : Int) := by
        rw [show (v : Int) * 64 + (y : Int) - 128 = (v1 : Int) by omega]; exact IntWalk.i64_in _ (by omega)
      have w4 : (k : Int) + 1 = (k1' : Int) := by omega
      have w5 : IntKind.i64.wrap (k1' : Int) = (k1' : Int) := IntWalk.i64_in _ (by omega)
      have HK2 := Lib.hid hx
      have HF := Lib.hid (show k1' + d1 = 1 ∧ 1 ≤ k1' ∧ v1 < 128 * 64 ^ (k1' - 1) ∧ k < k1' ∧ k1' ≤ 1 from ⟨by omega, by omega, hvb, by omega, by omega⟩)
      clear hx hv1 hk1' hp hp4 hvb hvl c1 c2 hv2 hkd
      go_wp2_with fail
      go_round
      case rel => exact ⟨k1', d1, v1, HF.out.1, HF.out.2.1, by go_num, by go_num, HF.out.2.2.1, HK2⟩
      case measure => have := HF.out; simp [intOf]; omega
    · obtain rfl : k = 1 := by omega
      obtain rfl : d = 0 := by omega
      have hx := HK.out
      change firstO 1 0 (some v) = (R1, R2) at hx
      unfold firstO at hx
      simp only [] at hx
      by_cases c1 : v < 0
      · have k1 : (v : Int) < 0 := by omega
        rw [if_pos (.inl c1), Prod.mk.injEq] at hx
        have HR2 : Hid (R1 = 0 ∧ R2 = 0) := Lib.hid ⟨hx.1.symm, hx.2.symm⟩
        clear hx c1 hv2
        go_wp2_with fail
        go_returns
        exact ⟨by rw [HR2.out.1, HR2.out.2]; rfl, rfl⟩
      have k1 : ¬ (v : Int) < 0 := by omega
      by_cases c2 : mayP v
      · have HM : Hid (mayB (v : Int) = true) := Lib.hid (by rw [mayB_nat, decide_eq_true c2])
        rw [if_neg (by rintro (h | h); · exact c1 h
                       · exact h c2), Prod.mk.injEq] at hx
        have HR2 : Hid (R1 = v ∧ R2 = 1) := Lib.hid ⟨hx.1.symm, hx.2.symm⟩
        clear hx c1 c2 hv2
        go_wp2_with fail
        refine (HS.out _ _ HM.out _).mono ?_
        rintro _ _ ⟨rfl, rfl⟩
        go_wp2_with fail
        go_returns
        exact ⟨by rw [HR2.out.1, HR2.out.2]; rfl, rfl⟩
      · have HM : Hid (mayB (v : Int) = false) := Lib.hid (by rw [mayB_nat, decide_eq_false c2])
        rw [if_pos (.inr c2), Prod.mk.injEq] at hx
        have HR2 : Hid (R1 = 0 ∧ R2 = 0) := Lib.hid ⟨hx.1.symm, hx.2.symm⟩
        clear hx c1 c2 hv2
        go_wp2_with fail
        refine (HS.out _ _ HM.out _).mono ?_
        rintro _ _ ⟨rfl, rfl⟩
        go_wp2_with fail
        go_returns
        exact ⟨by rw [HR2.out.1, HR2.out.2]; rfl, rfl⟩

set_option maxHeartbeats 8000000 in
set_option maxRecDepth 100000 in
theorem rfirst_2 (t : ByteArray) (n0 : Nat) (ht : 0 < t.size) (hs : t.size ≤ 4000000) (h0 : (t.get! 0).toNat = n0) (hc : 192 ≤ n0 ∧ n0 < 224) (R1 R2 : Nat) (hR : firstV t = (R1, R2)) (w : World) :
    Calls Tryz.prog 103 #[.string t] w fun e w' => e = .returned (.tuple #[.int .i64 (R1 : Int), .int .i64 (R2 : Int)]) ∧ w = w' := by
  have hv : (((t[0]'ht).toNat : Nat) : Int) = (n0 : Int) := by rw [← h0, get_in t 0 ht]
  have h256 : n0 < 256 := by rw [← h0]; exact (t.get! 0).toNat_lt
  unfold firstV at hR
  rw [h0] at hR
  rw [if_neg (by omega), if_pos hc] at hR
  have q0 : ¬ (n0 : Int) < 128 := by omega
  have q1 : (192 : Int) ≤ (n0 : Int) := by omega
  have q2 : (n0 : Int) < 224 := by omega
  obtain ⟨r0, hr0⟩ : ∃ r0, n0 - 192 = r0 := ⟨_, rfl⟩
  rw [hr0] at hR
  have qs : (n0 : Int) - 192 = (r0 : Int) := by omega
  have qw : IntKind.i64.wrap (r0 : Int) = (r0 : Int) := IntWalk.i64_in _ (by omega)
  have qr : r0 < 32 := by omega
  unfold firstL at hR
  by_cases hn : t.size < 2
  · rw [if_pos hn] at hR
    have HR : Hid (R1 = 0 ∧ R2 = 0) := by
      rw [Prod.mk.injEq] at hR
      exact Lib.hid ⟨hR.1.symm, hR.2.symm⟩
    have hni : (t.size : Int) < 2 := by omega
    clear hR hc h0 hn
    go_enter Tryz.func103, Tryz.ntmps103
    go_wp2_with fail
    go_returns
    exact ⟨by rw [HR.out.1, HR.out.2]; rfl, rfl⟩
  rw [if_neg hn] at hR
  have hni : ¬ (t.size : Int) < 2 := by omega
  have HR := Lib.hid hR
  have HS := Lib.hid (fun r b hb W => rsign_any r b hb W)
  clear hR hc h0 hr0
  go_enter Tryz.func103, Tryz.ntmps103
  go_wp2_with fail
  go_loop [8, 6] (fun i r => ∃ (k d v : Nat), k + d = 2 ∧ 1 ≤ k ∧ i = .int .i64 (k : Int) ∧ r = .int .i64 (v : Int) ∧ v < 128 * 64 ^ (k - 1) ∧ Hid (firstO 2 128 (contF t d k v) = (R1, R2))) (fun i _ => 2 - (intOf i).toNat)
  case atStart => exact ⟨1, 1, r0, by omega, by omega, rfl, rfl, by simp; omega, HR⟩
  case round =>
    obtain ⟨k, d, v, hkd, hk1, rfl, rfl, hv2, HK⟩ := hrel
    by_cases hlt : k < 2
    · have hlts : k < t.size := by omega
      obtain ⟨d1, rfl⟩ : ∃ d1, d = d1 + 1 := ⟨d - 1, by omega⟩
      have hx := HK.out
      rw [contF] at hx
      obtain ⟨y, hy⟩ : ∃ y, (t.get! k).toNat = y := ⟨_, rfl⟩
      have hyv : (((t[k]'hlts).toNat : Nat) : Int) = (y : Int) := by rw [← hy, get_in t k hlts]
      have hy256 : y < 256 := by rw [← hy]; exact (t.get! k).toNat_lt
      rw [hy] at hx
      clear hy
      have hkl : ((k : Int) < 2) := by omega
      by_cases c1 : y < 128
      · have k1 : (y : Int) < 128 := by omega
        rw [if_pos (.inl c1)] at hx
        have HR2 : Hid (R1 = 0 ∧ R2 = 0) := by
          have hx2 : ((0 : Nat), (0 : Nat)) = (R1, R2) := hx
          rw [Prod.mk.injEq] at hx2
          exact Lib.hid ⟨hx2.1.symm, hx2.2.symm⟩
        clear hx c1
        go_wp2_with fail
        go_returns
        exact ⟨by rw [HR2.out.1, HR2.out.2]; rfl, rfl⟩
      have k1 : ¬ (y : Int) < 128 := by omega
      by_cases c2 : 192 ≤ y
      · have k2 : (192 : Int) ≤ (y : Int) := by omega
        rw [if_pos (.inr c2)] at hx
        have HR2 : Hid (R1 = 0 ∧ R2 = 0) := by
          have hx2 : ((0 : Nat), (0 : Nat)) = (R1, R2) := hx
          rw [Prod.mk.injEq] at hx2
          exact Lib.hid ⟨hx2.1.symm, hx2.2.symm⟩
        clear hx c1 c2
        go_wp2_with fail
        go_returns
        exact ⟨by rw [HR2.out.1, HR2.out.2]; rfl, rfl⟩
      have k2 : ¬ (192 : Int) ≤ (y : Int) := by omega
      rw [if_neg (by omega)] at hx
      obtain ⟨v1, hv1⟩ : ∃ v1, v * 64 + y - 128 = v1 := ⟨_, rfl⟩
      rw [hv1] at hx
      obtain ⟨k1', hk1'⟩ : ∃ k1', k + 1 = k1' := ⟨_, rfl⟩
      rw [hk1'] at hx
      have hp : 64 ^ (k1' - 1) = 64 * 64 ^ (k - 1) := by rw [show k1' - 1 = (k - 1) + 1 by omega, Nat.pow_succ, Nat.mul_comm]
      have hp4 : 64 ^ (k - 1) ≤ 64 ^ 3 := Nat.pow_le_pow_right (by omega) (by omega)
      have hvb : v1 < 128 * 64 ^ (k1' - 1) := by rw [hp]; omega
      have hvl : v < 128 * 64 ^ 3 := by omega
      have w1 : IntKind.i64.wrap ((v : Int) * 64) = (v : Int) * 64 := IntWalk.i64_in _ (by omega)
      have w2 : IntKind.i64.wrap ((v : Int) * 64 + (y : Int)) = (v : Int) * 64 + (y : Int) := IntWalk.i64_in _ (by omega)
      have w3 : IntKind.i64.wrap ((v : Int) * 64 + (y : Int) - 128) = (v1 : Int) := by
        rw [show (v : Int) * 64 + (y : Int) - 128 = (v1 : Int) by omega]; exact IntWalk.i64_in _ (by omega)
      have w4 : (k : Int) + 1 = (k1' : Int) := by omega
      have w5 : IntKind.i64.wrap (k1' : Int) = (k1' : Int) := IntWalk.i64_in _ (by omega)
      have HK2 := Lib.hid hx
      have HF := Lib.hid (show k1' + d1 = 2 ∧ 1 ≤ k1' ∧ v1 < 128 * 64 ^ (k1' - 1) ∧ k < k1' ∧ k1' ≤ 2 from ⟨by omega, by omega, hvb, by omega, by omega⟩)
      clear hx hv1 hk1' hp hp4 hvb hvl c1 c2 hv2 hkd
      go_wp2_with fail
      go_round
      case rel => exact ⟨k1', d1, v1, HF.out.1, HF.out.2.1, by go_num, by go_num, HF.out.2.2.1, HK2⟩
      case measure => have := HF.out; simp [intOf]; omega
    · obtain rfl : k = 2 := by omega
      obtain rfl : d = 0 := by omega
      have hx := HK.out
      change firstO 2 128 (some v) = (R1, R2) at hx
      unfold firstO at hx
      simp only [] at hx
      by_cases c1 : v < 128
      · have k1 : (v : Int) < 128 := by omega
        rw [if_pos (.inl c1), Prod.mk.injEq] at hx
        have HR2 : Hid (R1 = 0 ∧ R2 = 0) := Lib.hid ⟨hx.1.symm, hx.2.symm⟩
        clear hx c1 hv2
        go_wp2_with fail
        go_returns
        exact ⟨by rw [HR2.out.1, HR2.out.2]; rfl, rfl⟩
      have k1 : ¬ (v : Int) < 128 := by omega
      by_cases c2 : mayP v
      · have HM : Hid (mayB (v : Int) = true) := Lib.hid (by rw [mayB_nat, decide_eq_true c2])
        rw [if_neg (by rintro (h | h); · exact c1 h
                       · exact h c2), Prod.mk.injEq] at hx
        have HR2 : Hid (R1 = v ∧ R2 = 2) := Lib.hid ⟨hx.1.symm, hx.2.symm⟩
        clear hx c1 c2 hv2
        go_wp2_with fail
        refine (HS.out _ _ HM.out _).mono ?_
        rintro _ _ ⟨rfl, rfl⟩
        go_wp2_with fail
        go_returns
        exact ⟨by rw [HR2.out.1, HR2.out.2]; rfl, rfl⟩
      · have HM : Hid (mayB (v : Int) = false) := Lib.hid (by rw [mayB_nat, decide_eq_false c2])
        rw [if_pos (.inr c2), Prod.mk.injEq] at hx
        have HR2 : Hid (R1 = 0 ∧ R2 = 0) := Lib.hid ⟨hx.1.symm, hx.2.symm⟩
        clear hx c1 c2 hv2
        go_wp2_with fail
        refine (HS.out _ _ HM.out _).mono ?_
        rintro _ _ ⟨rfl, rfl⟩
        go_wp2_with fail
        go_returns
        exact ⟨by rw [HR2.out.1, HR2.out.2]; rfl, rfl⟩

set_option maxHeartbeats 8000000 in
set_option maxRecDepth 100000 in
theorem rfirst_3 (t : ByteArray) (n0 : Nat) (ht : 0 < t.size) (hs : t.size ≤ 4000000) (h0 : (t.get! 0).toNat = n0) (hc : 224 ≤ n0 ∧ n0 < 240) (R1 R2 : Nat) (hR : firstV t = (R1, R2)) (w : World) :
    Calls Tryz.prog 103 #[.string t] w fun e w' => e = .returned (.tuple #[.int .i64 (R1 : Int), .int .i64 (R2 : Int)]) ∧ w = w' := by
  have hv : (((t[0]'ht).toNat : Nat) : Int) = (n0 : Int) := by rw [← h0, get_in t 0 ht]
  have h256 : n0 < 256 := by rw [← h0]; exact (t.get! 0).toNat_lt
  unfold firstV at hR
  rw [h0] at hR
  rw [if_neg (by omega), if_neg (by omega), if_pos hc] at hR
  have q0 : ¬ (n0 : Int) < 128 := by omega
  have q1 : (192 : Int) ≤ (n0 : Int) := by omega
  have q2 : ¬ (n0 : Int) < 224 := by omega
  have q3 : (224 : Int) ≤ (n0 : Int) := by omega
  have q4 : (n0 : Int) < 240 := by omega
  obtain ⟨r0, hr0⟩ : ∃ r0, n0 - 224 = r0 := ⟨_, rfl⟩
  rw [hr0] at hR
  have qs : (n0 : Int) - 224 = (r0 : Int) := by omega
  have qw : IntKind.i64.wrap (r0 : Int) = (r0 : Int) := IntWalk.i64_in _ (by omega)
  have qr : r0 < 32 := by omega
  unfold firstL at hR
  by_cases hn : t.size < 3
  · rw [if_pos hn] at hR
    have HR : Hid (R1 = 0 ∧ R2 = 0) := by
      rw [Prod.mk.injEq] at hR
      exact Lib.hid ⟨hR.1.symm, hR.2.symm⟩
    have hni : (t.size : Int) < 3 := by omega
    clear hR hc h0 hn
    go_enter Tryz.func103, Tryz.ntmps103
    go_wp2_with fail
    go_returns
    exact ⟨by rw [HR.out.1, HR.out.2]; rfl, rfl⟩
  rw [if_neg hn] at hR
  have hni : ¬ (t.size : Int) < 3 := by omega
  have HR := Lib.hid hR
  have HS := Lib.hid (fun r b hb W => rsign_any r b hb W)
  clear hR hc h0 hr0
  go_enter Tryz.func103, Tryz.ntmps103
  go_wp2_with fail
  go_loop [8, 6] (fun i r => ∃ (k d v : Nat), k + d = 3 ∧ 1 ≤ k ∧ i = .int .i64 (k : Int) ∧ r = .int .i64 (v : Int) ∧ v < 128 * 64 ^ (k - 1) ∧ Hid (firstO 3 2048 (contF t d k v) = (R1, R2))) (fun i _ => 3 - (intOf i).toNat)
  case atStart => exact ⟨1, 2, r0, by omega, by omega, rfl, rfl, by simp; omega, HR⟩
  case round =>
    obtain ⟨k, d, v, hkd, hk1, rfl, rfl, hv2, HK⟩ := hrel
    by_cases hlt : k < 3
    · have hlts : k < t.size := by omega
      obtain ⟨d1, rfl⟩ : ∃ d1, d = d1 + 1 := ⟨d - 1, by omega⟩
      have hx := HK.out
      rw [contF] at hx
      obtain ⟨y, hy⟩ : ∃ y, (t.get! k).toNat = y := ⟨_, rfl⟩
      have hyv : (((t[k]'hlts).toNat : Nat) : Int) = (y : Int) := by rw [← hy, get_in t k hlts]
      have hy256 : y < 256 := by rw [← hy]; exact (t.get! k).toNat_lt
      rw [hy] at hx
      clear hy
      have hkl : ((k : Int) < 3) := by omega
      by_cases c1 : y < 128
      · have k1 : (y : Int) < 128 := by omega
        rw [if_pos (.inl c1)] at hx
        have HR2 : Hid (R1 = 0 ∧ R2 = 0) := by
          have hx2 : ((0 : Nat), (0 : Nat)) = (R1, R2) := hx
          rw [Prod.mk.injEq] at hx2
          exact Lib.hid ⟨hx2.1.symm, hx2.2.symm⟩
        clear hx c1
        go_wp2_with fail
        go_returns
        exact ⟨by rw [HR2.out.1, HR2.out.2]; rfl, rfl⟩
      have k1 : ¬ (y : Int) < 128 := by omega
      by_cases c2 : 192 ≤ y
      · have k2 : (192 : Int) ≤ (y : Int) := by omega
        rw [if_pos (.inr c2)] at hx
        have HR2 : Hid (R1 = 0 ∧ R2 = 0) := by
          have hx2 : ((0 : Nat), (0 : Nat)) = (R1, R2) := hx
          rw [Prod.mk.injEq] at hx2
          exact Lib.hid ⟨hx2.1.symm, hx2.2.symm⟩
        clear hx c1 c2
        go_wp2_with fail
        go_returns
        exact ⟨by rw [HR2.out.1, HR2.out.2]; rfl, rfl⟩
      have k2 : ¬ (192 : Int) ≤ (y : Int) := by omega
      rw [if_neg (by omega)] at hx
      obtain ⟨v1, hv1⟩ : ∃ v1, v * 64 + y - 128 = v1 := ⟨_, rfl⟩
      rw [hv1] at hx
      obtain ⟨k1', hk1'⟩ : ∃ k1', k + 1 = k1' := ⟨_, rfl⟩
      rw [hk1'] at hx
      have hp : 64 ^ (k1' - 1) = 64 * 64 ^ (k - 1) := by rw [show k1' - 1 = (k - 1) + 1 by omega, Nat.pow_succ, Nat.mul_comm]
      have hp4 : 64 ^ (k - 1) ≤ 64 ^ 3 := Nat.pow_le_pow_right (by omega) (by omega)
      have hvb : v1 < 128 * 64 ^ (k1' - 1) := by rw [hp]; omega
      have hvl : v < 128 * 64 ^ 3 := by omega
      have w1 : IntKind.i64.wrap ((v : Int) * 64) = (v : Int) * 64 := IntWalk.i64_in _ (by omega)
      have w2 : IntKind.i64.wrap ((v : Int) * 64 + (y : Int)) = (v : Int) * 64 + (y : Int) := IntWalk.i64_in _ (by omega)
      have w3 : IntKind.i64.wrap ((v : Int) * 64 + (y : Int) - 128) = (v1 : Int) := by
        rw [show (v : Int) * 64 + (y : Int) - 128 = (v1 : Int) by omega]; exact IntWalk.i64_in _ (by omega)
      have w4 : (k : Int) + 1 = (k1' : Int) := by omega
      have w5 : IntKind.i64.wrap (k1' : Int) = (k1' : Int) := IntWalk.i64_in _ (by omega)
      have HK2 := Lib.hid hx
      have HF := Lib.hid (show k1' + d1 = 3 ∧ 1 ≤ k1' ∧ v1 < 128 * 64 ^ (k1' - 1) ∧ k < k1' ∧ k1' ≤ 3 from ⟨by omega, by omega, hvb, by omega, by omega⟩)
      clear hx hv1 hk1' hp hp4 hvb hvl c1 c2 hv2 hkd
      go_wp2_with fail
      go_round
      case rel => exact ⟨k1', d1, v1, HF.out.1, HF.out.2.1, by go_num, by go_num, HF.out.2.2.1, HK2⟩
      case measure => have := HF.out; simp [intOf]; omega
    · obtain rfl : k = 3 := by omega
      obtain rfl : d = 0 := by omega
      have hx := HK.out
      change firstO 3 2048 (some v) = (R1, R2) at hx
      unfold firstO at hx
      simp only [] at hx
      by_cases c1 : v < 2048
      · have k1 : (v : Int) < 2048 := by omega
        rw [if_pos (.inl c1), Prod.mk.injEq] at hx
        have HR2 : Hid (R1 = 0 ∧ R2 = 0) := Lib.hid ⟨hx.1.symm, hx.2.symm⟩
        clear hx c1 hv2
        go_wp2_with fail
        go_returns
        exact ⟨by rw [HR2.out.1, HR2.out.2]; rfl, rfl⟩
      have k1 : ¬ (v : Int) < 2048 := by omega
      by_cases c2 : mayP v
      · have HM : Hid (mayB (v : Int) = true) := Lib.hid (by rw [mayB_nat, decide_eq_true c2])
        rw [if_neg (by rintro (h | h); · exact c1 h
                       · exact h c2), Prod.mk.injEq] at hx
        have HR2 : Hid (R1 = v ∧ R2 = 3) := Lib.hid ⟨hx.1.symm, hx.2.symm⟩
        clear hx c1 c2 hv2
        go_wp2_with fail
        refine (HS.out _ _ HM.out _).mono ?_
        rintro _ _ ⟨rfl, rfl⟩
        go_wp2_with fail
        go_returns
        exact ⟨by rw [HR2.out.1, HR2.out.2]; rfl, rfl⟩
      · have HM : Hid (mayB (v : Int) = false) := Lib.hid (by rw [mayB_nat, decide_eq_false c2])
        rw [if_pos (.inr c2), Prod.mk.injEq] at hx
        have HR2 : Hid (R1 = 0 ∧ R2 = 0) := Lib.hid ⟨hx.1.symm, hx.2.symm⟩
        clear hx c1 c2 hv2
        go_wp2_with fail
        refine (HS.out _ _ HM.out _).mono ?_
        rintro _ _ ⟨rfl, rfl⟩
        go_wp2_with fail
        go_returns
        exact ⟨by rw [HR2.out.1, HR2.out.2]; rfl, rfl⟩

set_option maxHeartbeats 8000000 in
set_option maxRecDepth 100000 in
theorem rfirst_4 (t : ByteArray) (n0 : Nat) (ht : 0 < t.size) (hs : t.size ≤ 4000000) (h0 : (t.get! 0).toNat = n0) (hc : 240 ≤ n0 ∧ n0 < 248) (R1 R2 : Nat) (hR : firstV t = (R1, R2)) (w : World) :
    Calls Tryz.prog 103 #[.string t] w fun e w' => e = .returned (.tuple #[.int .i64 (R1 : Int), .int .i64 (R2 : Int)]) ∧ w = w' := by
  have hv : (((t[0]'ht).toNat : Nat) : Int) = (n0 : Int) := by rw [← h0, get_in t 0 ht]
  have h256 : n0 < 256 := by rw [← h0]; exact (t.get! 0).toNat_lt
  unfold firstV at hR
  rw [h0] at hR
  rw [if_neg (by omega), if_neg (by omega), if_neg (by omega), if_pos hc] at hR
  have q0 : ¬ (n0 : Int) < 128 := by omega
  have q1 : (192 : Int) ≤ (n0 : Int) := by omega
  have q2 : ¬ (n0 : Int) < 224 := by omega
  have q3 : (224 : Int) ≤ (n0 : Int) := by omega
  have q4 : ¬ (n0 : Int) < 240 := by omega
  have q5 : (240 : Int) ≤ (n0 : Int) := by omega
  have q6 : (n0 : Int) < 248 := by omega
  obtain ⟨r0, hr0⟩ : ∃ r0, n0 - 240 = r0 := ⟨_, rfl⟩
  rw [hr0] at hR
  have qs : (n0 : Int) - 240 = (r0 : Int) := by omega
  have qw : IntKind.i64.wrap (r0 : Int) = (r0 : Int) := IntWalk.i64_in _ (by omega)
  have qr : r0 < 32 := by omega
  unfold firstL at hR
  by_cases hn : t.size < 4
  · rw [if_pos hn] at hR
    have HR : Hid (R1 = 0 ∧ R2 = 0) := by
      rw [Prod.mk.injEq] at hR
      exact Lib.hid ⟨hR.1.symm, hR.2.symm⟩
    have hni : (t.size : Int) < 4 := by omega
    clear hR hc h0 hn
    go_enter Tryz.func103, Tryz.ntmps103
    go_wp2_with fail
    go_returns
    exact ⟨by rw [HR.out.1, HR.out.2]; rfl, rfl⟩
  rw [if_neg hn] at hR
  have hni : ¬ (t.size : Int) < 4 := by omega
  have HR := Lib.hid hR
  have HS := Lib.hid (fun r b hb W => rsign_any r b hb W)
  clear hR hc h0 hr0
  go_enter Tryz.func103, Tryz.ntmps103
  go_wp2_with fail
  go_loop [8, 6] (fun i r => ∃ (k d v : Nat), k + d = 4 ∧ 1 ≤ k ∧ i = .int .i64 (k : Int) ∧ r = .int .i64 (v : Int) ∧ v < 128 * 64 ^ (k - 1) ∧ Hid (firstO 4 65536 (contF t d k v) = (R1, R2))) (fun i _ => 4 - (intOf i).toNat)
  case atStart => exact ⟨1, 3, r0, by omega, by omega, rfl, rfl, by simp; omega, HR⟩
  case round =>
    obtain ⟨k, d, v, hkd, hk1, rfl, rfl, hv2, HK⟩ := hrel
    by_cases hlt : k < 4
    · have hlts : k < t.size := by omega
      obtain ⟨d1, rfl⟩ : ∃ d1, d = d1 + 1 := ⟨d - 1, by omega⟩
      have hx := HK.out
      rw [contF] at hx
      obtain ⟨y, hy⟩ : ∃ y, (t.get! k).toNat = y := ⟨_, rfl⟩
      have hyv : (((t[k]'hlts).toNat : Nat) : Int) = (y : Int) := by rw [← hy, get_in t k hlts]
      have hy256 : y < 256 := by rw [← hy]; exact (t.get! k).toNat_lt
      rw [hy] at hx
      clear hy
      have hkl : ((k : Int) < 4) := by omega
      by_cases c1 : y < 128
      · have k1 : (y : Int) < 128 := by omega
        rw [if_pos (.inl c1)] at hx
        have HR2 : Hid (R1 = 0 ∧ R2 = 0) := by
          have hx2 : ((0 : Nat), (0 : Nat)) = (R1, R2) := hx
          rw [Prod.mk.injEq] at hx2
          exact Lib.hid ⟨hx2.1.symm, hx2.2.symm⟩
        clear hx c1
        go_wp2_with fail
        go_returns
        exact ⟨by rw [HR2.out.1, HR2.out.2]; rfl, rfl⟩
      have k1 : ¬ (y : Int) < 128 := by omega
      by_cases c2 : 192 ≤ y
      · have k2 : (192 : Int) ≤ (y : Int) := by omega
        rw [if_pos (.inr c2)] at hx
        have HR2 : Hid (R1 = 0 ∧ R2 = 0) := by
          have hx2 : ((0 : Nat), (0 : Nat)) = (R1, R2) := hx
          rw [Prod.mk.injEq] at hx2
          exact Lib.hid ⟨hx2.1.symm, hx2.2.symm⟩
        clear hx c1 c2
        go_wp2_with fail
        go_returns
        exact ⟨by rw [HR2.out.1, HR2.out.2]; rfl, rfl⟩
      have k2 : ¬ (192 : Int) ≤ (y : Int) := by omega
      rw [if_neg (by omega)] at hx
      obtain ⟨v1, hv1⟩ : ∃ v1, v * 64 + y - 128 = v1 := ⟨_, rfl⟩
      rw [hv1] at hx
      obtain ⟨k1', hk1'⟩ : ∃ k1', k + 1 = k1' := ⟨_, rfl⟩
      rw [hk1'] at hx
      have hp : 64 ^ (k1' - 1) = 64 * 64 ^ (k - 1) := by rw [show k1' - 1 = (k - 1) + 1 by omega, Nat.pow_succ, Nat.mul_comm]
      have hp4 : 64 ^ (k - 1) ≤ 64 ^ 3 := Nat.pow_le_pow_right (by omega) (by omega)
      have hvb : v1 < 128 * 64 ^ (k1' - 1) := by rw [hp]; omega
      have hvl : v < 128 * 64 ^ 3 := by omega
      have w1 : IntKind.i64.wrap ((v : Int) * 64) = (v : Int) * 64 := IntWalk.i64_in _ (by omega)
      have w2 : IntKind.i64.wrap ((v : Int) * 64 + (y : Int)) = (v : Int) * 64 + (y : Int) := IntWalk.i64_in _ (by omega)
      have w3 : IntKind.i64.wrap ((v : Int) * 64 + (y : Int) - 128) = (v1 : Int) := by
        rw [show (v : Int) * 64 + (y : Int) - 128 = (v1 : Int) by omega]; exact IntWalk.i64_in _ (by omega)
      have w4 : (k : Int) + 1 = (k1' : Int) := by omega
      have w5 : IntKind.i64.wrap (k1' : Int) = (k1' : Int) := IntWalk.i64_in _ (by omega)
      have HK2 := Lib.hid hx
      have HF := Lib.hid (show k1' + d1 = 4 ∧ 1 ≤ k1' ∧ v1 < 128 * 64 ^ (k1' - 1) ∧ k < k1' ∧ k1' ≤ 4 from ⟨by omega, by omega, hvb, by omega, by omega⟩)
      clear hx hv1 hk1' hp hp4 hvb hvl c1 c2 hv2 hkd
      go_wp2_with fail
      go_round
      case rel => exact ⟨k1', d1, v1, HF.out.1, HF.out.2.1, by go_num, by go_num, HF.out.2.2.1, HK2⟩
      case measure => have := HF.out; simp [intOf]; omega
    · obtain rfl : k = 4 := by omega
      obtain rfl : d = 0 := by omega
      have hx := HK.out
      change firstO 4 65536 (some v) = (R1, R2) at hx
      unfold firstO at hx
      simp only [] at hx
      by_cases c1 : v < 65536
      · have k1 : (v : Int) < 65536 := by omega
        rw [if_pos (.inl c1), Prod.mk.injEq] at hx
        have HR2 : Hid (R1 = 0 ∧ R2 = 0) := Lib.hid ⟨hx.1.symm, hx.2.symm⟩
        clear hx c1 hv2
        go_wp2_with fail
        go_returns
        exact ⟨by rw [HR2.out.1, HR2.out.2]; rfl, rfl⟩
      have k1 : ¬ (v : Int) < 65536 := by omega
      by_cases c2 : mayP v
      · have HM : Hid (mayB (v : Int) = true) := Lib.hid (by rw [mayB_nat, decide_eq_true c2])
        rw [if_neg (by rintro (h | h); · exact c1 h
                       · exact h c2), Prod.mk.injEq] at hx
        have HR2 : Hid (R1 = v ∧ R2 = 4) := Lib.hid ⟨hx.1.symm, hx.2.symm⟩
        clear hx c1 c2 hv2
        go_wp2_with fail
        refine (HS.out _ _ HM.out _).mono ?_
        rintro _ _ ⟨rfl, rfl⟩
        go_wp2_with fail
        go_returns
        exact ⟨by rw [HR2.out.1, HR2.out.2]; rfl, rfl⟩
      · have HM : Hid (mayB (v : Int) = false) := Lib.hid (by rw [mayB_nat, decide_eq_false c2])
        rw [if_pos (.inr c2), Prod.mk.injEq] at hx
        have HR2 : Hid (R1 = 0 ∧ R2 = 0) := Lib.hid ⟨hx.1.symm, hx.2.symm⟩
        clear hx c1 c2 hv2
        go_wp2_with fail
        refine (HS.out _ _ HM.out _).mono ?_
        rintro _ _ ⟨rfl, rfl⟩
        go_wp2_with fail
        go_returns
        exact ⟨by rw [HR2.out.1, HR2.out.2]; rfl, rfl⟩

set_option maxHeartbeats 8000000 in
set_option maxRecDepth 100000 in
theorem rfirst_5 (t : ByteArray) (n0 : Nat) (ht : 0 < t.size) (hs : t.size ≤ 4000000) (h0 : (t.get! 0).toNat = n0) (hc : 128 ≤ n0 ∧ n0 < 192) (R1 R2 : Nat) (hR : firstV t = (R1, R2)) (w : World) :
    Calls Tryz.prog 103 #[.string t] w fun e w' => e = .returned (.tuple #[.int .i64 (R1 : Int), .int .i64 (R2 : Int)]) ∧ w = w' := by
  have hv : (((t[0]'ht).toNat : Nat) : Int) = (n0 : Int) := by rw [← h0, get_in t 0 ht]
  have h256 : n0 < 256 := by rw [← h0]; exact (t.get! 0).toNat_lt
  unfold firstV at hR
  rw [h0] at hR
  rw [if_neg (by omega), if_neg (by omega), if_neg (by omega), if_neg (by omega)] at hR
  have HR : Hid (R1 = 0 ∧ R2 = 0) := by
    rw [Prod.mk.injEq] at hR
    exact Lib.hid ⟨hR.1.symm, hR.2.symm⟩
  clear hR
  have q0 : ¬ (n0 : Int) < 128 := by omega
  have q1 : ¬ (192 : Int) ≤ (n0 : Int) := by omega
  have q2 : ¬ (224 : Int) ≤ (n0 : Int) := by omega
  have q3 : ¬ (240 : Int) ≤ (n0 : Int) := by omega
  clear hc h0
  go_enter Tryz.func103, Tryz.ntmps103
  go_wp2_with fail
  go_returns
  exact ⟨by rw [HR.out.1, HR.out.2]; rfl, rfl⟩

set_option maxHeartbeats 8000000 in
set_option maxRecDepth 100000 in
theorem rfirst_6 (t : ByteArray) (n0 : Nat) (ht : 0 < t.size) (hs : t.size ≤ 4000000) (h0 : (t.get! 0).toNat = n0) (hc : 248 ≤ n0) (R1 R2 : Nat) (hR : firstV t = (R1, R2)) (w : World) :
    Calls Tryz.prog 103 #[.string t] w fun e w' => e = .returned (.tuple #[.int .i64 (R1 : Int), .int .i64 (R2 : Int)]) ∧ w = w' := by
  have hv : (((t[0]'ht).toNat : Nat) : Int) = (n0 : Int) := by rw [← h0, get_in t 0 ht]
  have h256 : n0 < 256 := by rw [← h0]; exact (t.get! 0).toNat_lt
  unfold firstV at hR
  rw [h0] at hR
  rw [if_neg (by omega), if_neg (by omega), if_neg (by omega), if_neg (by omega)] at hR
  have HR : Hid (R1 = 0 ∧ R2 = 0) := by
    rw [Prod.mk.injEq] at hR
    exact Lib.hid ⟨hR.1.symm, hR.2.symm⟩
  clear hR
  have q0 : ¬ (n0 : Int) < 128 := by omega
  have q1 : (192 : Int) ≤ (n0 : Int) := by omega
  have q2 : ¬ (n0 : Int) < 224 := by omega
  have q3 : (224 : Int) ≤ (n0 : Int) := by omega
  have q4 : ¬ (n0 : Int) < 240 := by omega
  have q5 : (240 : Int) ≤ (n0 : Int) := by omega
  have q6 : ¬ (n0 : Int) < 248 := by omega
  have q7 : (n0 : Int) < 256 := by omega
  clear hc h0
  go_enter Tryz.func103, Tryz.ntmps103
  go_wp2_with fail
  go_returns
  exact ⟨by rw [HR.out.1, HR.out.2]; rfl, rfl⟩

theorem width_le (s : ByteArray) (p : Nat) : (Utf8.decode s p).2 ≤ 4 := by
  rw [Lib.decode_at]
  unfold Lib.decodeN
  repeat' split
  all_goals simp
theorem rfirst_any (t : ByteArray) (ht : 0 < t.size) (hs : t.size ≤ 4000000) (R1 R2 : Nat) (hR : firstV t = (R1, R2)) (w : World) :
    Calls Tryz.prog 103 #[.string t] w fun e w' => e = .returned (.tuple #[.int .i64 (R1 : Int), .int .i64 (R2 : Int)]) ∧ w = w' := by
  obtain ⟨n0, h0⟩ : ∃ n0, (t.get! 0).toNat = n0 := ⟨_, rfl⟩
  by_cases g1 : n0 < 128
  · exact rfirst_1 t n0 ht hs h0 g1 R1 R2 hR w
  by_cases g5 : n0 < 192
  · exact rfirst_5 t n0 ht hs h0 ⟨by omega, g5⟩ R1 R2 hR w
  by_cases g2 : n0 < 224
  · exact rfirst_2 t n0 ht hs h0 ⟨by omega, g2⟩ R1 R2 hR w
  by_cases g3 : n0 < 240
  · exact rfirst_3 t n0 ht hs h0 ⟨by omega, g3⟩ R1 R2 hR w
  by_cases g4 : n0 < 248
  · exact rfirst_4 t n0 ht hs h0 ⟨by omega, g4⟩ R1 R2 hR w
  · exact rfirst_6 t n0 ht hs h0 (by omega) R1 R2 hR w

/-- What the suffix of a text begins with is what the text holds at that place. -/
theorem get_suffix (s : ByteArray) (p i : Nat) : (s.extract p s.size).get! i = s.get! (p + i) := by
  by_cases h : p + i < s.size
  · have h2 : i < (s.extract p s.size).size := by rw [ByteArray.size_extract]; omega
    rw [get_in _ _ h2, get_in _ _ h, ByteArray.getElem_extract]
  · have h2 : ¬ i < (s.extract p s.size).size := by rw [ByteArray.size_extract]; omega
    rw [get_out _ _ h2, get_out _ _ h]
theorem decode_suffix (s : ByteArray) (p : Nat) (hp : p < s.size) : Utf8.decode (s.extract p s.size) 0 = Utf8.decode s p := by
  rw [Lib.decode_at, Lib.decode_at, get_suffix, get_suffix, get_suffix, get_suffix]
  simp only [Nat.add_zero, Nat.zero_add, Nat.sub_zero, ByteArray.size_extract, Nat.min_self]
theorem badAt_eq (s : ByteArray) (p : Nat) (hp : p < s.size) : badAt s p = decide (((Utf8.decode s p).1 = 65533 ∧ (Utf8.decode s p).2 = 1) ∨ ¬ mayP (Utf8.decode s p).1) := by
  have hz : ¬ (s.extract p s.size).size = 0 := by rw [ByteArray.size_extract]; omega
  unfold badAt Lib.decodeGo
  rw [if_neg hz, decode_suffix s p hp, mayB_nat]
  by_cases h1 : (Utf8.decode s p).1 = 65533 <;> by_cases h2 : (Utf8.decode s p).2 = 1 <;> by_cases h3 : mayP (Utf8.decode s p).1 <;> simp [h1, h2, h3]
/-- How the reference's first answers at a place. -/
theorem first_at (s : ByteArray) (p : Nat) (hp : p < s.size) : firstV (s.extract p s.size) = if badAt s p then (0, 0) else Utf8.decode s p := by
  rw [firstV_eq _ (by rw [ByteArray.size_extract]; omega), decode_suffix s p hp, badAt_eq s p hp]
  unfold okD
  by_cases h : ((Utf8.decode s p).1 = 65533 ∧ (Utf8.decode s p).2 = 1) ∨ ¬ mayP (Utf8.decode s p).1
  · rw [if_pos h, if_pos (decide_eq_true h)]
  · rw [if_neg h, if_neg (by simpa using h)]

set_option maxHeartbeats 4000000 in
set_option maxRecDepth 100000 in
theorem rbad_any (s : ByteArray) (hs : s.size ≤ 4000000) (w : World) : Calls Tryz.prog 67 #[.string s] w fun e w' => e = .returned (.int .i64 (badF s s.size 0)) ∧ w = w' := by
  obtain ⟨R, hR⟩ : ∃ R, badF s s.size 0 = R := ⟨_, rfl⟩
  rw [hR]
  have HR := Lib.hid hR
  clear hR
  go_enter Tryz.func67, Tryz.ntmps67
  go_wp2_with fail
  go_loop [3] (fun i => ∃ (pos b : Nat), i = .int .i64 (pos : Int) ∧ Hid (badF s b pos = R) ∧ s.size ≤ pos + b ∧ pos ≤ 8000000) (fun i => s.size - (intOf i).toNat)
  case atStart => exact ⟨0, s.size, rfl, HR, by omega, by omega⟩
  case round =>
    obtain ⟨pos, b, rfl, HF, hle, hpm⟩ := hrel
    by_cases hp : pos < s.size
    · have hwd := width_pos s pos hp
      have hw4 := width_le s pos
      obtain ⟨b', rfl⟩ : ∃ b', b = b' + 1 := ⟨b - 1, by omega⟩
      have hf := HF.out
      rw [badF, if_pos hp] at hf
      have hfa := first_at s pos hp
      obtain ⟨t, ht⟩ : ∃ t, s.extract pos s.size = t := ⟨_, rfl⟩
      have hts : t.size = s.size - pos := by rw [← ht, ByteArray.size_extract, Nat.min_self]
      rw [ht] at hfa
      obtain ⟨r, n, hrn⟩ : ∃ r n, Utf8.decode s pos = (r, n) := ⟨_, _, rfl⟩
      rw [hrn] at hf hfa hwd hw4
      simp only at hf hwd hw4
      cases hb : badAt s pos with
      | true =>
        rw [hb, if_pos rfl] at hf hfa
        have HF1 := Lib.hid (fun W => rfirst_any t (by omega) (by omega) 0 0 hfa W)
        have Hf := Lib.hid hf
        clear hf hfa hb hrn hts
        go_wp2_with fail
        refine (HF1.out _).mono ?_
        rintro _ _ ⟨rfl, rfl⟩
        go_wp2_with fail
        go_ret
        exact ⟨by rw [← Hf.out]; rfl, rfl⟩
      | false =>
        rw [hb, if_neg (by simp)] at hf hfa
        have HF1 := Lib.hid (fun W => rfirst_any t (by omega) (by omega) r n hfa W)
        have Hf := Lib.hid hf
        have hn0 : ((n : Int) == 0) = false := by simp; omega
        obtain ⟨p2, hp2⟩ : ∃ p2, pos + n = p2 := ⟨_, rfl⟩
        rw [hp2] at Hf
        have w4 : (pos : Int) + (n : Int) = (p2 : Int) := by omega
        have w5 : IntKind.i64.wrap (p2 : Int) = (p2 : Int) := IntWalk.i64_in _ (by omega)
        have HP := Lib.hid (show s.size ≤ p2 + b' ∧ p2 ≤ 8000000 ∧ pos < p2 from ⟨by omega, by omega, by omega⟩)
        clear hf hfa hb hrn hts hp2
        go_wp2_with fail
        refine (HF1.out _).mono ?_
        rintro _ _ ⟨rfl, rfl⟩
        go_wp2_with fail
        go_round
        case rel => exact ⟨p2, b', by go_num, Hf, HP.out.1, HP.out.2.1⟩
        case measure => have := HP.out; simp [intOf]; omega
    · have hf := HF.out
      rw [badF_end s b pos hp] at hf
      have Hf := Lib.hid hf
      clear hf
      go_wp2
      go_ret
      exact ⟨by rw [← Hf.out]; rfl, rfl⟩
theorem rgood_any (s : ByteArray) (hs : s.size ≤ 4000000) (b : Bool) (hb : goodS s = b) (w : World) : Calls Tryz.prog 40 #[.string s] w fun e w' => e = .returned (.bool b) ∧ w = w' := by
  have HB := Lib.hid (rbad_any s hs w)
  unfold goodS at hb
  obtain ⟨R, hR⟩ : ∃ R, badF s s.size 0 = R := ⟨_, rfl⟩
  rw [hR] at HB hb
  have Hb := Lib.hid hb
  clear hR hb
  go_enter Tryz.func40, Tryz.ntmps40
  go_wp2_with fail
  refine HB.out.mono ?_
  rintro _ _ ⟨rfl, rfl⟩
  go_wp2
  go_returns
  exact ⟨by rw [← Hb.out]; first | rfl | simp, rfl⟩
end Go.Proofs.YtambpkkllgppdaaGreatDoor

namespace Go.Proofs.YtambpkkllgppdaaGreatDoor
open Go.RowKit

theorem Blk.setL {w : World} {g : Nat} {t : TypeId} {cs : Array Value} (h : Blk w g t cs) (i : Nat) (u : Value) (cs' : Array Value) (he : cs.setIfInBounds i u = cs') : Blk (w.setCell ⟨g, i, none⟩ u) g t cs' := he ▸ h.set_ i u
theorem runS_at (S : Bs) (s : ByteArray) (k : Nat) (h : k < s.size) : runS S (s.data.toList.drop k) = if S.contains (s[k]'h) then runS S (s.data.toList.drop (k + 1)) + 1 else 0 := by
  rw [byte_drop s k h, runS_cons]
theorem runS_end (S : Bs) (s : ByteArray) (k : Nat) (h : ¬ k < s.size) : runS S (s.data.toList.drop k) = 0 := by
  rw [drop_end s k (by omega)]; rfl
theorem dotted_at (s : ByteArray) (k : Nat) (h : k + 1 < s.size) : dotted (s.data.toList.drop k) = (s[k]'(by omega) == 46 && figs.contains (s[k + 1]'h)) := by
  rw [byte_drop s k (by omega), byte_drop s (k + 1) h]
  by_cases hc : s[k]'(by omega) = 46
  · rw [hc]; simp [dotted]
  · have : (s[k]'(by omega) == 46) = false := by simpa using hc
    rw [this, Bool.false_and]
    simp only [dotted]
    split
    · rename_i h2
      injection h2 with h3 h4
      exact absurd h3 hc
    · rfl
theorem dotted_short (s : ByteArray) (k : Nat) (h : ¬ k + 1 < s.size) : dotted (s.data.toList.drop k) = false := by
  cases hd : dotted (s.data.toList.drop k) with
  | false => rfl
  | true =>
    have := dotted_len hd
    rw [List.length_drop, size_list] at this
    omega

set_option maxHeartbeats 8000000 in
set_option maxRecDepth 100000 in
theorem rone_num (s : ByteArray) (p : Nat) (hp : p < s.size) (hs : s.size ≤ 4000000) (hc : figs.contains (s[p]'hp) = true) (E : Nat) (hE : p + numLen (s.data.toList.drop p) = E) (rn rs re : Int) (w : World)
    (HP : Hid (∀ W, Calls Tryz.prog 38 #[.string (s.extract p E)] W fun e w' => e = .returned (.tuple #[.agg #[.int .i64 rn, .int .i64 rs], .int .i64 re]) ∧ Below W.heap.size W w')) :
    Calls Tryz.prog 19 #[.string s, .int .i64 (p : Int)] w fun e w' => e = .returned (.tuple #[.agg #[.int .i64 1, .int .i64 (p : Int), .string ⟨#[]⟩, .int .i64 rn, .int .i64 rs, .int .i64 0], .int .i64 (E : Int), .int .i64 re]) ∧ Below w.heap.size w w' := by
  have HF := Lib.hid (fun (c : UInt8) (b : Bool) (hb : figs.contains c = b) W => figure_any c.toNat b (by rw [fig_eq, hb]) W)
  have HF46 : Hid (∀ W, Calls Tryz.prog 37 #[.int .u8 46] W fun e w' => e = .returned (.bool false) ∧ W = w') := Lib.hid (fun W => figure_any 46 false rfl W)
  have hEs : E ≤ s.size := by
    have := numLen_le (s.data.toList.drop p)
    rw [List.length_drop, size_list] at this
    omega
  have hpE : p ≤ E := by omega
  have hpi : (p : Int) ≤ (E : Int) := by omega
  have hEi : (E : Int) ≤ (s.size : Int) := by omega
  have hb1 := Blk.new w 38 #[.int .i64 0, .int .i64 0, .string ⟨#[]⟩, .int .i64 0, .int .i64 0, .int .i64 0]
  have hb2 : Blk ((w.alloc (.cells #[.int .i64 0, .int .i64 0, .string ⟨#[]⟩, .int .i64 0, .int .i64 0, .int .i64 0] 38)).alloc (.cells #[.int .i64 0, .int .i64 (p : Int), .string ⟨#[]⟩, .int .i64 0, .int .i64 0, .int .i64 0] 38)) (w.heap.size + 1) 38 #[.int .i64 0, .int .i64 (p : Int), .string ⟨#[]⟩, .int .i64 0, .int .i64 0, .int .i64 0] := Blk.new' _ _ _ (by simp)
  have H1 := Lib.hid (show Blk (w.alloc (.cells #[.int .i64 0, .int .i64 0, .string ⟨#[]⟩, .int .i64 0, .int .i64 0, .int .i64 0] 38) |>.alloc (.cells #[.int .i64 0, .int .i64 (p : Int), .string ⟨#[]⟩, .int .i64 0, .int .i64 0, .int .i64 0] 38)) w.heap.size 38 #[.int .i64 0, .int .i64 0, .string ⟨#[]⟩, .int .i64 0, .int .i64 0, .int .i64 0] ∧ _ from ⟨hb1.alloc _, hb2⟩)
  clear hb1 hb2
  obtain ⟨m, hm⟩ : ∃ m, p + runS figs (s.data.toList.drop p) = m := ⟨_, rfl⟩
  have HE := Lib.hid hE
  have Hm := Lib.hid hm
  have HC := Lib.hid hc
  clear hE hm hc
  go_enter Tryz.func19, Tryz.ntmps19
  go_wp2_with fail
  refine (HF.out _ true HC.out _).mono ?_
  rintro _ _ ⟨rfl, rfl⟩
  go_wp2_with fail
  go_loop [8] (fun i => ∃ k : Nat, p ≤ k ∧ k ≤ s.size ∧ i = .int .i64 (k : Int) ∧ Hid (k + runS figs (s.data.toList.drop k) = m)) (fun i => s.size - (intOf i).toNat)
  case atStart => exact ⟨p, Nat.le_refl _, by omega, rfl, Hm⟩
  case round =>
    obtain ⟨k, hpk, hk, rfl, HK⟩ := hrel
    by_cases hlt : k < s.size
    · have hst := HK.out
      rw [runS_at figs s k hlt] at hst
      cases hf : figs.contains (s[k]'hlt) with
      | true =>
        rw [hf, if_pos rfl] at hst
        obtain ⟨k1, hk1⟩ : ∃ k1, k + 1 = k1 := ⟨_, rfl⟩
        rw [hk1] at hst
        have w4 : (k : Int) + 1 = (k1 : Int) := by omega
        have w5 : IntKind.i64.wrap (k1 : Int) = (k1 : Int) := IntWalk.i64_in _ (by omega)
        have HK2 : Hid (k1 + runS figs (s.data.toList.drop k1) = m) := Lib.hid (by omega)
        have HQ : Hid (p ≤ k1 ∧ k1 ≤ s.size ∧ k < k1) := Lib.hid ⟨by omega, by omega, by omega⟩
        have HF2 := Lib.hid hf
        clear hst hf hk1
        go_wp2_with fail
        refine (HF.out _ true HF2.out _).mono ?_
        rintro _ _ ⟨rfl, rfl⟩
        go_wp2_with fail
        go_round
        case rel => exact ⟨k1, HQ.out.1, HQ.out.2.1, by go_num, HK2⟩
        case measure => have := HQ.out; simp [intOf]; omega
      | false =>
        rw [hf, if_neg (by simp), Nat.add_zero] at hst
        have HF2 := Lib.hid hf
        have HkE : Hid (dotted (s.data.toList.drop k) = false → k = E) := Lib.hid (fun h => by
          have h1 := HE.out
          have h2 := Hm.out
          unfold numLen at h1
          have h3 : p + runS figs (s.data.toList.drop p) = k := by omega
          rw [List.drop_drop, h3, h, if_neg (by simp)] at h1
          omega)
        have HkD : Hid (dotted (s.data.toList.drop k) = true → k + 1 + runS figs (s.data.toList.drop (k + 1)) = E) := Lib.hid (fun h => by
          have h1 := HE.out
          have h2 := Hm.out
          unfold numLen at h1
          have h3 : p + runS figs (s.data.toList.drop p) = k := by omega
          rw [List.drop_drop, h3, h, if_pos rfl, List.drop_drop, show p + (runS figs (s.data.toList.drop p) + 1) = k + 1 by omega] at h1
          omega)
        clear hst hf
        obtain ⟨k1, hk1⟩ : ∃ k1, k + 1 = k1 := ⟨_, rfl⟩
        have w4 : (k : Int) + 1 = (k1 : Int) := by omega
        have w5 : IntKind.i64.wrap (k1 : Int) = (k1 : Int) := IntWalk.i64_in _ (by omega)
        by_cases hlt2 : k + 1 < s.size
        · have hlt3 : k1 < s.size := by omega
          have hlt3i : (k1 : Int) < (s.size : Int) := by omega
          by_cases h46 : s[k]'hlt = 46
          · have y1 : (((s[k]'hlt).toNat : Nat) : Int) = 46 := by rw [h46]; rfl
            cases hf2 : figs.contains (s[k1]'hlt3) with
            | true =>
              have hd : dotted (s.data.toList.drop k) = true := by
                rw [dotted_at s k hlt2, h46]
                subst hk1
                rw [hf2]; rfl
              have HD := Lib.hid (HkD.out hd)
              have HF3 := Lib.hid hf2
              have HK1 := Lib.hid hk1
              clear hd hf2 hk1 h46 hlt2
              go_wp2_with fail
              refine (HF46.out _).mono ?_
              rintro _ _ ⟨rfl, rfl⟩
              go_wp2_with fail
              refine (HF.out _ true HF3.out _).mono ?_
              rintro _ _ ⟨rfl, rfl⟩
              go_wp2_with fail
              go_loop [8] (fun i => ∃ q : Nat, k1 ≤ q ∧ q ≤ s.size ∧ i = .int .i64 (q : Int) ∧ Hid (q + runS figs (s.data.toList.drop q) = E)) (fun i => s.size - (intOf i).toNat)
              case atStart => exact ⟨k1, Nat.le_refl _, by omega, rfl, Lib.hid (by have := HD.out; rw [HK1.out] at this; exact this)⟩
              case round =>
                obtain ⟨q, hpq, hq, rfl, HQ⟩ := hrel
                by_cases hqt : q < s.size
                · have hst := HQ.out
                  rw [runS_at figs s q hqt] at hst
                  cases hf4 : figs.contains (s[q]'hqt) with
                  | true =>
                    rw [hf4, if_pos rfl] at hst
                    obtain ⟨q1, hq1⟩ : ∃ q1, q + 1 = q1 := ⟨_, rfl⟩
                    rw [hq1] at hst
                    have v4 : (q : Int) + 1 = (q1 : Int) := by omega
                    have v5 : IntKind.i64.wrap (q1 : Int) = (q1 : Int) := IntWalk.i64_in _ (by omega)
                    have HK2 : Hid (q1 + runS figs (s.data.toList.drop q1) = E) := Lib.hid (by omega)
                    have HQQ : Hid (k1 ≤ q1 ∧ q1 ≤ s.size ∧ q < q1) := Lib.hid ⟨by omega, by omega, by omega⟩
                    have HF4 := Lib.hid hf4
                    clear hst hf4 hq1
                    go_wp2_with fail
                    refine (HF.out _ true HF4.out _).mono ?_
                    rintro _ _ ⟨rfl, rfl⟩
                    go_wp2_with fail
                    go_round
                    case rel => exact ⟨q1, HQQ.out.1, HQQ.out.2.1, by go_num, HK2⟩
                    case measure => have := HQQ.out; simp [intOf]; omega
                  | false =>
                    rw [hf4, if_neg (by simp), Nat.add_zero] at hst
                    have HF4 := Lib.hid hf4
                    subst hst
                    clear hf4
                    go_wp2_with fail
                    refine (HF.out _ false HF4.out _).mono ?_
                    rintro _ _ ⟨rfl, rfl⟩
                    go_wp2_with fail
                    refine (HP.out _).mono ?_
                    rintro _ w1 ⟨rfl, hw1⟩
                    obtain ⟨hb1, hb2⟩ := H1.out
                    replace hb1 := hb1.step hw1
                    replace hb2 := hb2.step hw1
                    have hb3 := Blk.new w1 36 #[.int .i64 rn, .int .i64 rs]
                    have hlt := hb2.lt; have hllt := lts hlt; have qt0 := hb2.cell 0; have qt1 := hb2.cell 1; have qt2 := hb2.cell 2; have qt3 := hb2.cell 3; have qt4 := hb2.cell 4; have qt5 := hb2.cell 5; simp at qt0 qt1 qt2 qt3 qt4 qt5; have zt0 := hb2.frozen 0; have zt1 := hb2.frozen 1; have zt2 := hb2.frozen 2; have zt3 := hb2.frozen 3; have zt4 := hb2.frozen 4; have zt5 := hb2.frozen 5; have Hhb2 := Lib.hid hb2; clear hb2
                    go_wp2_with fail
                    go_region
                    have k2 : Blk (((((w1.setCell ⟨w.heap.size + 1, 0, none⟩ (.int .i64 1)).setCell ⟨w.heap.size + 1, 3, none⟩ (.int .i64 rn)).setCell ⟨w.heap.size + 1, 4, none⟩ (.int .i64 rs)).alloc (.cells #[.int .i64 rn, .int .i64 rs] 36)).drew) (w.heap.size + 1) 38 #[.int .i64 1, .int .i64 (p : Int), .string ⟨#[]⟩, .int .i64 rn, .int .i64 rs, .int .i64 0] :=
                      ((((Hhb2.out.setL 0 _ _ rfl).setL 3 _ _ rfl).setL 4 _ _ rfl).alloc _).drew
                    have k1' : Blk (((((w1.setCell ⟨w.heap.size + 1, 0, none⟩ (.int .i64 1)).setCell ⟨w.heap.size + 1, 3, none⟩ (.int .i64 rn)).setCell ⟨w.heap.size + 1, 4, none⟩ (.int .i64 rs)).alloc (.cells #[.int .i64 rn, .int .i64 rs] 36)).drew) w.heap.size 38 #[.int .i64 0, .int .i64 0, .string ⟨#[]⟩, .int .i64 0, .int .i64 0, .int .i64 0] :=
                      ((((hb1.far (by simp) _).far (by simp) _).far (by simp) _).alloc _).drew
                    clear hlt qt0 qt1 qt2 qt3 qt4 qt5 zt0 zt1 zt2 zt3 zt4 zt5
                    go_wp2_with (first | (refine wpList_load_blk k2 rfl _ _ (by rfl) (by rfl) (by (repeat (first | (with_reducible exact k2) | (with_reducible refine Blk.alloc ?_ _) | (with_reducible refine Blk.drew ?_) | (with_reducible refine Blk.far ?_ (by first | (simp; done) | (simp; omega)) _) | (with_reducible refine Blk.turn ?_ (by with_reducible assumption) (by omega))))) _ Tryz.underlying38 rfl (by kernel_rfl) ?_) | (refine wpList_store_blk k1' rfl _ _ _ (by rfl) _ (by rfl) (by rfl) (by (repeat (first | (with_reducible exact k1') | (with_reducible refine Blk.alloc ?_ _) | (with_reducible refine Blk.drew ?_) | (with_reducible refine Blk.far ?_ (by first | (simp; done) | (simp; omega)) _) | (with_reducible refine Blk.turn ?_ (by with_reducible assumption) (by omega))))) (by rfl) (by kernel_rfl) (by simp [Value.oneCell']) ?_; intro wt k1'n ht))
                    refine ret_blk3 rfl k1'n rfl Tryz.underlying38 rfl (by kernel_rfl) rfl ?_
                    exact ⟨rfl, by (repeat' (first | (with_reducible exact Below.refl _ _) | (with_reducible assumption) | (with_reducible refine balloc ?_ _) | (with_reducible refine Below.drew ?_) | (with_reducible refine bset ?_ ?_ _) | (with_reducible refine bstep ?_ (by with_reducible assumption)) | (with_reducible refine bturn ?_ (by with_reducible assumption) ?_) | go_size))⟩
                · have hst := HQ.out
                  rw [runS_end figs s q hqt, Nat.add_zero] at hst
                  subst hst
                  go_wp2_with fail
                  refine (HP.out _).mono ?_
                  rintro _ w1 ⟨rfl, hw1⟩
                  obtain ⟨hb1, hb2⟩ := H1.out
                  replace hb1 := hb1.step hw1
                  replace hb2 := hb2.step hw1
                  have hb3 := Blk.new w1 36 #[.int .i64 rn, .int .i64 rs]
                  have hlt := hb2.lt; have hllt := lts hlt; have qt0 := hb2.cell 0; have qt1 := hb2.cell 1; have qt2 := hb2.cell 2; have qt3 := hb2.cell 3; have qt4 := hb2.cell 4; have qt5 := hb2.cell 5; simp at qt0 qt1 qt2 qt3 qt4 qt5; have zt0 := hb2.frozen 0; have zt1 := hb2.frozen 1; have zt2 := hb2.frozen 2; have zt3 := hb2.frozen 3; have zt4 := hb2.frozen 4; have zt5 := hb2.frozen 5; have Hhb2 := Lib.hid hb2; clear hb2
                  go_wp2_with fail
                  go_region
                  have k2 : Blk (((((w1.setCell ⟨w.heap.size + 1, 0, none⟩ (.int .i64 1)).setCell ⟨w.heap.size + 1, 3, none⟩ (.int .i64 rn)).setCell ⟨w.heap.size + 1, 4, none⟩ (.int .i64 rs)).alloc (.cells #[.int .i64 rn, .int .i64 rs] 36)).drew) (w.heap.size + 1) 38 #[.int .i64 1, .int .i64 (p : Int), .string ⟨#[]⟩, .int .i64 rn, .int .i64 rs, .int .i64 0] :=
                    ((((Hhb2.out.setL 0 _ _ rfl).setL 3 _ _ rfl).setL 4 _ _ rfl).alloc _).drew
                  have k1' : Blk (((((w1.setCell ⟨w.heap.size + 1, 0, none⟩ (.int .i64 1)).setCell ⟨w.heap.size + 1, 3, none⟩ (.int .i64 rn)).setCell ⟨w.heap.size + 1, 4, none⟩ (.int .i64 rs)).alloc (.cells #[.int .i64 rn, .int .i64 rs] 36)).drew) w.heap.size 38 #[.int .i64 0, .int .i64 0, .string ⟨#[]⟩, .int .i64 0, .int .i64 0, .int .i64 0] :=
                    ((((hb1.far (by simp) _).far (by simp) _).far (by simp) _).alloc _).drew
                  clear hlt qt0 qt1 qt2 qt3 qt4 qt5 zt0 zt1 zt2 zt3 zt4 zt5
                  go_wp2_with (first | (refine wpList_load_blk k2 rfl _ _ (by rfl) (by rfl) (by (repeat (first | (with_reducible exact k2) | (with_reducible refine Blk.alloc ?_ _) | (with_reducible refine Blk.drew ?_) | (with_reducible refine Blk.far ?_ (by first | (simp; done) | (simp; omega)) _) | (with_reducible refine Blk.turn ?_ (by with_reducible assumption) (by omega))))) _ Tryz.underlying38 rfl (by kernel_rfl) ?_) | (refine wpList_store_blk k1' rfl _ _ _ (by rfl) _ (by rfl) (by rfl) (by (repeat (first | (with_reducible exact k1') | (with_reducible refine Blk.alloc ?_ _) | (with_reducible refine Blk.drew ?_) | (with_reducible refine Blk.far ?_ (by first | (simp; done) | (simp; omega)) _) | (with_reducible refine Blk.turn ?_ (by with_reducible assumption) (by omega))))) (by rfl) (by kernel_rfl) (by simp [Value.oneCell']) ?_; intro wt k1'n ht))
                  refine ret_blk3 rfl k1'n rfl Tryz.underlying38 rfl (by kernel_rfl) rfl ?_
                  exact ⟨rfl, by (repeat' (first | (with_reducible exact Below.refl _ _) | (with_reducible assumption) | (with_reducible refine balloc ?_ _) | (with_reducible refine Below.drew ?_) | (with_reducible refine bset ?_ ?_ _) | (with_reducible refine bstep ?_ (by with_reducible assumption)) | (with_reducible refine bturn ?_ (by with_reducible assumption) ?_) | go_size))⟩
            | false =>
              have hd : dotted (s.data.toList.drop k) = false := by
                rw [dotted_at s k hlt2, h46]
                subst hk1
                rw [hf2]; rfl
              obtain rfl := HkE.out hd
              have HF3 := Lib.hid hf2
              clear hd hf2 hk1 h46 hlt2
              go_wp2_with fail
              refine (HF46.out _).mono ?_
              rintro _ _ ⟨rfl, rfl⟩
              go_wp2_with fail
              refine (HF.out _ false HF3.out _).mono ?_
              rintro _ _ ⟨rfl, rfl⟩
              go_wp2_with fail
              refine (HP.out _).mono ?_
              rintro _ w1 ⟨rfl, hw1⟩
              obtain ⟨hb1, hb2⟩ := H1.out
              replace hb1 := hb1.step hw1
              replace hb2 := hb2.step hw1
              have hb3 := Blk.new w1 36 #[.int .i64 rn, .int .i64 rs]
              have hlt := hb2.lt; have hllt := lts hlt; have qt0 := hb2.cell 0; have qt1 := hb2.cell 1; have qt2 := hb2.cell 2; have qt3 := hb2.cell 3; have qt4 := hb2.cell 4; have qt5 := hb2.cell 5; simp at qt0 qt1 qt2 qt3 qt4 qt5; have zt0 := hb2.frozen 0; have zt1 := hb2.frozen 1; have zt2 := hb2.frozen 2; have zt3 := hb2.frozen 3; have zt4 := hb2.frozen 4; have zt5 := hb2.frozen 5; have Hhb2 := Lib.hid hb2; clear hb2
              go_wp2_with fail
              go_region
              have k2 : Blk (((((w1.setCell ⟨w.heap.size + 1, 0, none⟩ (.int .i64 1)).setCell ⟨w.heap.size + 1, 3, none⟩ (.int .i64 rn)).setCell ⟨w.heap.size + 1, 4, none⟩ (.int .i64 rs)).alloc (.cells #[.int .i64 rn, .int .i64 rs] 36)).drew) (w.heap.size + 1) 38 #[.int .i64 1, .int .i64 (p : Int), .string ⟨#[]⟩, .int .i64 rn, .int .i64 rs, .int .i64 0] :=
                ((((Hhb2.out.setL 0 _ _ rfl).setL 3 _ _ rfl).setL 4 _ _ rfl).alloc _).drew
              have k1' : Blk (((((w1.setCell ⟨w.heap.size + 1, 0, none⟩ (.int .i64 1)).setCell ⟨w.heap.size + 1, 3, none⟩ (.int .i64 rn)).setCell ⟨w.heap.size + 1, 4, none⟩ (.int .i64 rs)).alloc (.cells #[.int .i64 rn, .int .i64 rs] 36)).drew) w.heap.size 38 #[.int .i64 0, .int .i64 0, .string ⟨#[]⟩, .int .i64 0, .int .i64 0, .int .i64 0] :=
                ((((hb1.far (by simp) _).far (by simp) _).far (by simp) _).alloc _).drew
              clear hlt qt0 qt1 qt2 qt3 qt4 qt5 zt0 zt1 zt2 zt3 zt4 zt5
              go_wp2_with (first | (refine wpList_load_blk k2 rfl _ _ (by rfl) (by rfl) (by (repeat (first | (with_reducible exact k2) | (with_reducible refine Blk.alloc ?_ _) | (with_reducible refine Blk.drew ?_) | (with_reducible refine Blk.far ?_ (by first | (simp; done) | (simp; omega)) _) | (with_reducible refine Blk.turn ?_ (by with_reducible assumption) (by omega))))) _ Tryz.underlying38 rfl (by kernel_rfl) ?_) | (refine wpList_store_blk k1' rfl _ _ _ (by rfl) _ (by rfl) (by rfl) (by (repeat (first | (with_reducible exact k1') | (with_reducible refine Blk.alloc ?_ _) | (with_reducible refine Blk.drew ?_) | (with_reducible refine Blk.far ?_ (by first | (simp; done) | (simp; omega)) _) | (with_reducible refine Blk.turn ?_ (by with_reducible assumption) (by omega))))) (by rfl) (by kernel_rfl) (by simp [Value.oneCell']) ?_; intro wt k1'n ht))
              refine ret_blk3 rfl k1'n rfl Tryz.underlying38 rfl (by kernel_rfl) rfl ?_
              exact ⟨rfl, by (repeat' (first | (with_reducible exact Below.refl _ _) | (with_reducible assumption) | (with_reducible refine balloc ?_ _) | (with_reducible refine Below.drew ?_) | (with_reducible refine bset ?_ ?_ _) | (with_reducible refine bstep ?_ (by with_reducible assumption)) | (with_reducible refine bturn ?_ (by with_reducible assumption) ?_) | go_size))⟩
          · have y1 : ((((s[k]'hlt).toNat : Nat) : Int) == 46) = false := by
              simpa using fun e => h46 (UInt8.toNat_inj.1 (by rw [show (46 : UInt8).toNat = 46 from rfl]; omega))
            have hd : dotted (s.data.toList.drop k) = false := by
              rw [dotted_at s k hlt2, show (s[k]'hlt == 46) = false by simpa using h46]; rfl
            obtain rfl := HkE.out hd
            clear hd hk1 h46 hlt2
            go_wp2_with fail
            refine (HF.out _ false HF2.out _).mono ?_
            rintro _ _ ⟨rfl, rfl⟩
            go_wp2_with fail
            refine (HP.out _).mono ?_
            rintro _ w1 ⟨rfl, hw1⟩
            obtain ⟨hb1, hb2⟩ := H1.out
            replace hb1 := hb1.step hw1
            replace hb2 := hb2.step hw1
            have hb3 := Blk.new w1 36 #[.int .i64 rn, .int .i64 rs]
            have hlt := hb2.lt; have hllt := lts hlt; have qt0 := hb2.cell 0; have qt1 := hb2.cell 1; have qt2 := hb2.cell 2; have qt3 := hb2.cell 3; have qt4 := hb2.cell 4; have qt5 := hb2.cell 5; simp at qt0 qt1 qt2 qt3 qt4 qt5; have zt0 := hb2.frozen 0; have zt1 := hb2.frozen 1; have zt2 := hb2.frozen 2; have zt3 := hb2.frozen 3; have zt4 := hb2.frozen 4; have zt5 := hb2.frozen 5; have Hhb2 := Lib.hid hb2; clear hb2
            go_wp2_with fail
            go_region
            have k2 : Blk (((((w1.setCell ⟨w.heap.size + 1, 0, none⟩ (.int .i64 1)).setCell ⟨w.heap.size + 1, 3, none⟩ (.int .i64 rn)).setCell ⟨w.heap.size + 1, 4, none⟩ (.int .i64 rs)).alloc (.cells #[.int .i64 rn, .int .i64 rs] 36)).drew) (w.heap.size + 1) 38 #[.int .i64 1, .int .i64 (p : Int), .string ⟨#[]⟩, .int .i64 rn, .int .i64 rs, .int .i64 0] :=
              ((((Hhb2.out.setL 0 _ _ rfl).setL 3 _ _ rfl).setL 4 _ _ rfl).alloc _).drew
            have k1' : Blk (((((w1.setCell ⟨w.heap.size + 1, 0, none⟩ (.int .i64 1)).setCell ⟨w.heap.size + 1, 3, none⟩ (.int .i64 rn)).setCell ⟨w.heap.size + 1, 4, none⟩ (.int .i64 rs)).alloc (.cells #[.int .i64 rn, .int .i64 rs] 36)).drew) w.heap.size 38 #[.int .i64 0, .int .i64 0, .string ⟨#[]⟩, .int .i64 0, .int .i64 0, .int .i64 0] :=
              ((((hb1.far (by simp) _).far (by simp) _).far (by simp) _).alloc _).drew
            clear hlt qt0 qt1 qt2 qt3 qt4 qt5 zt0 zt1 zt2 zt3 zt4 zt5
            go_wp2_with (first | (refine wpList_load_blk k2 rfl _ _ (by rfl) (by rfl) (by (repeat (first | (with_reducible exact k2) | (with_reducible refine Blk.alloc ?_ _) | (with_reducible refine Blk.drew ?_) | (with_reducible refine Blk.far ?_ (by first | (simp; done) | (simp; omega)) _) | (with_reducible refine Blk.turn ?_ (by with_reducible assumption) (by omega))))) _ Tryz.underlying38 rfl (by kernel_rfl) ?_) | (refine wpList_store_blk k1' rfl _ _ _ (by rfl) _ (by rfl) (by rfl) (by (repeat (first | (with_reducible exact k1') | (with_reducible refine Blk.alloc ?_ _) | (with_reducible refine Blk.drew ?_) | (with_reducible refine Blk.far ?_ (by first | (simp; done) | (simp; omega)) _) | (with_reducible refine Blk.turn ?_ (by with_reducible assumption) (by omega))))) (by rfl) (by kernel_rfl) (by simp [Value.oneCell']) ?_; intro wt k1'n ht))
            refine ret_blk3 rfl k1'n rfl Tryz.underlying38 rfl (by kernel_rfl) rfl ?_
            exact ⟨rfl, by (repeat' (first | (with_reducible exact Below.refl _ _) | (with_reducible assumption) | (with_reducible refine balloc ?_ _) | (with_reducible refine Below.drew ?_) | (with_reducible refine bset ?_ ?_ _) | (with_reducible refine bstep ?_ (by with_reducible assumption)) | (with_reducible refine bturn ?_ (by with_reducible assumption) ?_) | go_size))⟩
        · have hlt3i : ¬ (k1 : Int) < (s.size : Int) := by omega
          have hd : dotted (s.data.toList.drop k) = false := dotted_short s k hlt2
          obtain rfl := HkE.out hd
          clear hd hk1 hlt2
          go_wp2_with fail
          refine (HF.out _ false HF2.out _).mono ?_
          rintro _ _ ⟨rfl, rfl⟩
          go_wp2_with fail
          refine (HP.out _).mono ?_
          rintro _ w1 ⟨rfl, hw1⟩
          obtain ⟨hb1, hb2⟩ := H1.out
          replace hb1 := hb1.step hw1
          replace hb2 := hb2.step hw1
          have hb3 := Blk.new w1 36 #[.int .i64 rn, .int .i64 rs]
          have hlt := hb2.lt; have hllt := lts hlt; have qt0 := hb2.cell 0; have qt1 := hb2.cell 1; have qt2 := hb2.cell 2; have qt3 := hb2.cell 3; have qt4 := hb2.cell 4; have qt5 := hb2.cell 5; simp at qt0 qt1 qt2 qt3 qt4 qt5; have zt0 := hb2.frozen 0; have zt1 := hb2.frozen 1; have zt2 := hb2.frozen 2; have zt3 := hb2.frozen 3; have zt4 := hb2.frozen 4; have zt5 := hb2.frozen 5; have Hhb2 := Lib.hid hb2; clear hb2
          go_wp2_with fail
          go_region
          have k2 : Blk (((((w1.setCell ⟨w.heap.size + 1, 0, none⟩ (.int .i64 1)).setCell ⟨w.heap.size + 1, 3, none⟩ (.int .i64 rn)).setCell ⟨w.heap.size + 1, 4, none⟩ (.int .i64 rs)).alloc (.cells #[.int .i64 rn, .int .i64 rs] 36)).drew) (w.heap.size + 1) 38 #[.int .i64 1, .int .i64 (p : Int), .string ⟨#[]⟩, .int .i64 rn, .int .i64 rs, .int .i64 0] :=
            ((((Hhb2.out.setL 0 _ _ rfl).setL 3 _ _ rfl).setL 4 _ _ rfl).alloc _).drew
          have k1' : Blk (((((w1.setCell ⟨w.heap.size + 1, 0, none⟩ (.int .i64 1)).setCell ⟨w.heap.size + 1, 3, none⟩ (.int .i64 rn)).setCell ⟨w.heap.size + 1, 4, none⟩ (.int .i64 rs)).alloc (.cells #[.int .i64 rn, .int .i64 rs] 36)).drew) w.heap.size 38 #[.int .i64 0, .int .i64 0, .string ⟨#[]⟩, .int .i64 0, .int .i64 0, .int .i64 0] :=
            ((((hb1.far (by simp) _).far (by simp) _).far (by simp) _).alloc _).drew
          clear hlt qt0 qt1 qt2 qt3 qt4 qt5 zt0 zt1 zt2 zt3 zt4 zt5
          go_wp2_with (first | (refine wpList_load_blk k2 rfl _ _ (by rfl) (by rfl) (by (repeat (first | (with_reducible exact k2) | (with_reducible refine Blk.alloc ?_ _) | (with_reducible refine Blk.drew ?_) | (with_reducible refine Blk.far ?_ (by first | (simp; done) | (simp; omega)) _) | (with_reducible refine Blk.turn ?_ (by with_reducible assumption) (by omega))))) _ Tryz.underlying38 rfl (by kernel_rfl) ?_) | (refine wpList_store_blk k1' rfl _ _ _ (by rfl) _ (by rfl) (by rfl) (by (repeat (first | (with_reducible exact k1') | (with_reducible refine Blk.alloc ?_ _) | (with_reducible refine Blk.drew ?_) | (with_reducible refine Blk.far ?_ (by first | (simp; done) | (simp; omega)) _) | (with_reducible refine Blk.turn ?_ (by with_reducible assumption) (by omega))))) (by rfl) (by kernel_rfl) (by simp [Value.oneCell']) ?_; intro wt k1'n ht))
          refine ret_blk3 rfl k1'n rfl Tryz.underlying38 rfl (by kernel_rfl) rfl ?_
          exact ⟨rfl, by (repeat' (first | (with_reducible exact Below.refl _ _) | (with_reducible assumption) | (with_reducible refine balloc ?_ _) | (with_reducible refine Below.drew ?_) | (with_reducible refine bset ?_ ?_ _) | (with_reducible refine bstep ?_ (by with_reducible assumption)) | (with_reducible refine bturn ?_ (by with_reducible assumption) ?_) | go_size))⟩
    · have hst := HK.out
      rw [runS_end figs s k hlt, Nat.add_zero] at hst
      have hd : dotted (s.data.toList.drop k) = false := dotted_short s k (by omega)
      have hkE : k = E := by
        have h1 := HE.out
        have h2 := Hm.out
        unfold numLen at h1
        rw [List.drop_drop, show p + runS figs (s.data.toList.drop p) = k by omega, hd, if_neg (by simp)] at h1
        omega
      obtain ⟨k1, hk1⟩ : ∃ k1, k + 1 = k1 := ⟨_, rfl⟩
      have w4 : (k : Int) + 1 = (k1 : Int) := by omega
      have w5 : IntKind.i64.wrap (k1 : Int) = (k1 : Int) := IntWalk.i64_in _ (by omega)
      have hlt3i : ¬ (k1 : Int) < (s.size : Int) := by omega
      subst hkE
      clear hst hd hk1
      go_wp2_with fail
      refine (HP.out _).mono ?_
      rintro _ w1 ⟨rfl, hw1⟩
      obtain ⟨hb1, hb2⟩ := H1.out
      replace hb1 := hb1.step hw1
      replace hb2 := hb2.step hw1
      have hb3 := Blk.new w1 36 #[.int .i64 rn, .int .i64 rs]
      have hlt := hb2.lt; have hllt := lts hlt; have qt0 := hb2.cell 0; have qt1 := hb2.cell 1; have qt2 := hb2.cell 2; have qt3 := hb2.cell 3; have qt4 := hb2.cell 4; have qt5 := hb2.cell 5; simp at qt0 qt1 qt2 qt3 qt4 qt5; have zt0 := hb2.frozen 0; have zt1 := hb2.frozen 1; have zt2 := hb2.frozen 2; have zt3 := hb2.frozen 3; have zt4 := hb2.frozen 4; have zt5 := hb2.frozen 5; have Hhb2 := Lib.hid hb2; clear hb2
      go_wp2_with fail
      go_region
      have k2 : Blk (((((w1.setCell ⟨w.heap.size + 1, 0, none⟩ (.int .i64 1)).setCell ⟨w.heap.size + 1, 3, none⟩ (.int .i64 rn)).setCell ⟨w.heap.size + 1, 4, none⟩ (.int .i64 rs)).alloc (.cells #[.int .i64 rn, .int .i64 rs] 36)).drew) (w.heap.size + 1) 38 #[.int .i64 1, .int .i64 (p : Int), .string ⟨#[]⟩, .int .i64 rn, .int .i64 rs, .int .i64 0] :=
        ((((Hhb2.out.setL 0 _ _ rfl).setL 3 _ _ rfl).setL 4 _ _ rfl).alloc _).drew
      have k1' : Blk (((((w1.setCell ⟨w.heap.size + 1, 0, none⟩ (.int .i64 1)).setCell ⟨w.heap.size + 1, 3, none⟩ (.int .i64 rn)).setCell ⟨w.heap.size + 1, 4, none⟩ (.int .i64 rs)).alloc (.cells #[.int .i64 rn, .int .i64 rs] 36)).drew) w.heap.size 38 #[.int .i64 0, .int .i64 0, .string ⟨#[]⟩, .int .i64 0, .int .i64 0, .int .i64 0] :=
        ((((hb1.far (by simp) _).far (by simp) _).far (by simp) _).alloc _).drew
      clear hlt qt0 qt1 qt2 qt3 qt4 qt5 zt0 zt1 zt2 zt3 zt4 zt5
      go_wp2_with (first | (refine wpList_load_blk k2 rfl _ _ (by rfl) (by rfl) (by (repeat (first | (with_reducible exact k2) | (with_reducible refine Blk.alloc ?_ _) | (with_reducible refine Blk.drew ?_) | (with_reducible refine Blk.far ?_ (by first | (simp; done) | (simp; omega)) _) | (with_reducible refine Blk.turn ?_ (by with_reducible assumption) (by omega))))) _ Tryz.underlying38 rfl (by kernel_rfl) ?_) | (refine wpList_store_blk k1' rfl _ _ _ (by rfl) _ (by rfl) (by rfl) (by (repeat (first | (with_reducible exact k1') | (with_reducible refine Blk.alloc ?_ _) | (with_reducible refine Blk.drew ?_) | (with_reducible refine Blk.far ?_ (by first | (simp; done) | (simp; omega)) _) | (with_reducible refine Blk.turn ?_ (by with_reducible assumption) (by omega))))) (by rfl) (by kernel_rfl) (by simp [Value.oneCell']) ?_; intro wt k1'n ht))
      refine ret_blk3 rfl k1'n rfl Tryz.underlying38 rfl (by kernel_rfl) rfl ?_
      exact ⟨rfl, by (repeat' (first | (with_reducible exact Below.refl _ _) | (with_reducible assumption) | (with_reducible refine balloc ?_ _) | (with_reducible refine Below.drew ?_) | (with_reducible refine bset ?_ ?_ _) | (with_reducible refine bstep ?_ (by with_reducible assumption)) | (with_reducible refine bturn ?_ (by with_reducible assumption) ?_) | go_size))⟩
end Go.Proofs.YtambpkkllgppdaaGreatDoor
