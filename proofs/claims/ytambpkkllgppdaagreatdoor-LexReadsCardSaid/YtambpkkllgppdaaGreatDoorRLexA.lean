/- The walks of the reference's small functions of package lex: figure, White, Name, Word, quoted. -/
import Derived.Test.YtambpkkllgppdaaGreatDoorLexF
namespace Go.Proofs.YtambpkkllgppdaaGreatDoor
open Go.RowKit

theorem figure_any (n : Nat) (b : Bool) (hb : decide (48 ≤ n ∧ n ≤ 57) = b) (w : World) : Calls Tryz.prog 37 #[.int .u8 (n : Int)] w fun e w' => e = .returned (.bool b) ∧ w = w' := by
  subst hb
  by_cases g1 : 48 ≤ n
  · have k1 : (48 : Int) ≤ (n : Int) := by omega
    by_cases g2 : n ≤ 57
    · have k2 : (n : Int) ≤ 57 := by omega
      rw [decide_eq_true (And.intro g1 g2)]
      clear g1 g2
      go_enter Tryz.func37, Tryz.ntmps37
      go_wp2
      go_ret
      exact ⟨rfl, rfl⟩
    · have k2 : ¬ (n : Int) ≤ 57 := by omega
      rw [decide_eq_false (fun h => g2 h.2)]
      clear g1 g2
      go_enter Tryz.func37, Tryz.ntmps37
      go_wp2
      go_ret
      exact ⟨rfl, rfl⟩
  · have k1 : ¬ (48 : Int) ≤ (n : Int) := by omega
    rw [decide_eq_false (fun h => g1 h.1)]
    clear g1
    go_enter Tryz.func37, Tryz.ntmps37
    go_wp2
    go_ret
    exact ⟨rfl, rfl⟩

def whiB (n : Nat) : Bool := decide (n = 9 ∨ n = 10 ∨ n = 13 ∨ n = 32)
theorem white_any (n : Nat) (b : Bool) (hb : whiB n = b) (w : World) : Calls Tryz.prog 18 #[.int .u8 (n : Int)] w fun e w' => e = .returned (.bool b) ∧ w = w' := by
  subst hb
  by_cases g9 : n = 9
  · subst g9
    go_enter Tryz.func18, Tryz.ntmps18
    go_wp2
    go_ret
    exact ⟨rfl, rfl⟩
  by_cases g10 : n = 10
  · subst g10
    go_enter Tryz.func18, Tryz.ntmps18
    go_wp2
    go_ret
    exact ⟨rfl, rfl⟩
  by_cases g13 : n = 13
  · subst g13
    go_enter Tryz.func18, Tryz.ntmps18
    go_wp2
    go_ret
    exact ⟨rfl, rfl⟩
  by_cases g32 : n = 32
  · subst g32
    go_enter Tryz.func18, Tryz.ntmps18
    go_wp2
    go_ret
    exact ⟨rfl, rfl⟩
  have hf : whiB n = false := decide_eq_false (by omega)
  rw [hf]
  have k9 : (((n : Nat) : Int) == 9) = false := by simp; omega
  have k10 : (((n : Nat) : Int) == 10) = false := by simp; omega
  have k13 : (((n : Nat) : Int) == 13) = false := by simp; omega
  have k32 : (((n : Nat) : Int) == 32) = false := by simp; omega
  clear hf g9 g10 g13 g32
  go_enter Tryz.func18, Tryz.ntmps18
  go_wp2
  go_ret
  exact ⟨rfl, rfl⟩
theorem whi_eq (c : UInt8) : whiB c.toNat = whites.contains c := all_bytes (p := fun c => whiB c.toNat = whites.contains c) (by decide +kernel) c
theorem fig_eq (c : UInt8) : decide (48 ≤ c.toNat ∧ c.toNat ≤ 57) = figs.contains c := all_bytes (p := fun c => decide (48 ≤ c.toNat ∧ c.toNat ≤ 57) = figs.contains c) (by decide +kernel) c
theorem let_eq (c : UInt8) : letB c.toNat = lets.contains c := all_bytes (p := fun c => letB c.toNat = lets.contains c) (by decide +kernel) c
theorem nm_eq (c : UInt8) : nmB c = (lets ++ figs).contains c := all_bytes (p := fun c => nmB c = (lets ++ figs).contains c) (by decide +kernel) c

def rquoV (at_ : Nat) : Option (Bs × Nat) → Value
  | none => .tuple #[.string ⟨#[]⟩, .int .i64 (-1)]
  | some p => .tuple #[.string (bs p.1), .int .i64 ((at_ + 1 + p.2 : Nat) : Int)]
theorem ext_one (s : ByteArray) (k k1 : Nat) (h : k < s.size) (h1 : k + 1 = k1) : (s.extract k k1).data.toList = [s[k]] := by
  subst h1
  rw [ByteArray.data_extract, Array.toList_extract, List.extract_eq_take_drop, byte_drop s k h]
  rw [show k + 1 - k = 1 by omega]
  rfl
theorem app_one (q e : ByteArray) (o : Bs) (y : UInt8) (hq : q.data.toList = o) (he : e.data.toList = [y]) : (q ++ e).data.toList = o ++ [y] := by
  rw [ByteArray.data_append, Array.toList_append, hq, he]

set_option maxHeartbeats 4000000 in
set_option maxRecDepth 100000 in
theorem rquoted_any (s : ByteArray) (p : Nat) (hp : p < s.size) (hs : s.size ≤ 4000000) (R : Value) (hR : rquoV p (qS (s.data.toList.drop (p + 1))) = R) (w : World) :
    Calls Tryz.prog 39 #[.string s, .int .i64 (p : Int)] w fun e w' => e = .returned R ∧ w = w' := by
  obtain ⟨p1, hp1⟩ : ∃ p1, p + 1 = p1 := ⟨_, rfl⟩
  rw [hp1] at hR
  have HR := Lib.hid hR
  have Hp := Lib.hid hp1
  have ki0 : (p : Int) + 1 = (p1 : Int) := by omega
  have kw0 : IntKind.i64.wrap (p1 : Int) = (p1 : Int) := IntWalk.i64_in _ (by omega)
  have hp1s : p1 ≤ s.size := by omega
  clear hR hp1
  go_enter Tryz.func39, Tryz.ntmps39
  go_wp2_with fail
  go_loop [7, 6] (fun i q => ∃ (k : Nat) (o : Bs) (qq : ByteArray), p1 ≤ k ∧ k ≤ s.size ∧ i = .int .i64 (k : Int) ∧ q = .string qq ∧ qq.size ≤ k ∧ Hid (qq.data.toList = o ∧ qS (s.data.toList.drop p1) = (qS (s.data.toList.drop k)).map fun r => (o ++ r.1, r.2 + (k - p1)))) (fun i _ => s.size - (intOf i).toNat)
  case atStart => exact ⟨p1, [], ⟨#[]⟩, Nat.le_refl _, hp1s, rfl, rfl, Nat.zero_le _, Lib.hid ⟨rfl, by cases qS (s.data.toList.drop p1) <;> simp⟩⟩
  case round =>
    obtain ⟨k, o, qq, hk1, hk, rfl, rfl, hqs, HQ⟩ := hrel
    by_cases hlt : k < s.size
    · have hd := byte_drop s k hlt
      obtain ⟨y, hy⟩ : ∃ y, s[k] = y := ⟨_, rfl⟩
      rw [hy] at hd
      have hx := qS_cons y (s.data.toList.drop (k + 1))
      rw [← hd] at hx
      obtain ⟨k1, hk1'⟩ : ∃ k1, k + 1 = k1 := ⟨_, rfl⟩
      rw [hk1'] at hx
      have ki : (k : Int) + 1 = (k1 : Int) := by omega
      have kw : IntKind.i64.wrap (k1 : Int) = (k1 : Int) := IntWalk.i64_in _ (by omega)
      have hyv : (((s[k]'hlt).toNat : Nat) : Int) = ((y.toNat : Nat) : Int) := by rw [hy]
      by_cases h34 : y = 34
      · rw [if_pos h34] at hx
        have hq := HQ.out.2
        rw [hx] at hq
        have HE : Hid (R = .tuple #[.string qq, .int .i64 (k1 : Int)]) := by
          refine Lib.hid ?_
          rw [← HR.out, hq]
          show Value.tuple #[.string (bs (o ++ [])), .int .i64 ((p + 1 + (1 + (k - p1)) : Nat) : Int)] = _
          rw [List.append_nil, ← bs_of HQ.out.1, show p + 1 + (1 + (k - p1)) = k1 by have := Hp.out; omega]
        have y1 : ((y.toNat : Nat) : Int) = 34 := by rw [h34]; rfl
        rw [y1] at hyv
        clear hx hd h34 hq hy y1 hk1'
        go_wp2_with fail
        go_returns
        exact ⟨by rw [HE.out]; rfl, rfl⟩
      · rw [if_neg h34] at hx
        have x0 : ¬ ((y.toNat : Nat) : Int) = 34 := fun e => h34 (UInt8.toNat_inj.1 (by rw [show (34 : UInt8).toNat = 34 from rfl]; omega))
        by_cases h92 : y = 92
        · rw [if_pos h92] at hx
          have y1 : ((y.toNat : Nat) : Int) = 92 := by rw [h92]; rfl
          by_cases hlt2 : k1 < s.size
          · have hd2 := byte_drop s k1 hlt2
            obtain ⟨z, hz⟩ : ∃ z, s[k1] = z := ⟨_, rfl⟩
            rw [hz] at hd2
            rw [hd2] at hx
            simp only at hx
            obtain ⟨k2, hk2'⟩ : ∃ k2, k1 + 1 = k2 := ⟨_, rfl⟩
            rw [hk2'] at hx hd2
            have ki2 : (k1 : Int) + 1 = (k2 : Int) := by omega
            have kw2 : IntKind.i64.wrap (k2 : Int) = (k2 : Int) := IntWalk.i64_in _ (by omega)
            have hzv : (((s[k1]'hlt2).toNat : Nat) : Int) = ((z.toNat : Nat) : Int) := by rw [hz]
            have kge : ¬ (s.size : Int) ≤ (k1 : Int) := by omega
            by_cases hzz : z = 34 ∨ z = 92
            · rw [if_pos hzz] at hx
              have hq := HQ.out.2
              rw [hx] at hq
              have HQ2 : qS (s.data.toList.drop p1) = (qS (s.data.toList.drop k2)).map fun r => ((o ++ [z]) ++ r.1, r.2 + (k2 - p1)) := by
                rw [hq]
                cases qS (s.data.toList.drop k2) with
                | none => rfl
                | some r =>
                  simp only [Option.map_some, List.append_assoc, List.singleton_append]
                  congr 2
                  omega
              obtain ⟨e, he⟩ : ∃ e, s.extract k1 k2 = e := ⟨_, rfl⟩
              have hel : e.data.toList = [z] := by rw [← he, ext_one s k1 k2 hlt2 hk2', hz]
              have hes : e.size = 1 := by rw [← size_list, hel]; rfl
              obtain ⟨q2, hq2⟩ : ∃ q2, qq ++ e = q2 := ⟨_, rfl⟩
              have hq2l : q2.data.toList = o ++ [z] := by rw [← hq2]; exact app_one qq e o z HQ.out.1 hel
              have hq2s : q2.size = qq.size + 1 := by rw [← hq2, ByteArray.size_append, hes]
              have HH := Lib.hid (And.intro hq2l HQ2)
              have k2i : (k2 : Int) ≤ (s.size : Int) := by omega
              have hq2k : Hid (q2.size ≤ k2) := Lib.hid (by omega)
              have hsz2 : qq.size + e.size ≤ 9223372036854775807 := by omega
              have hk2p : Hid (p1 ≤ k2 ∧ k2 ≤ s.size ∧ k < k2) := Lib.hid ⟨by omega, by omega, by omega⟩
              rw [y1] at hyv x0
              rcases hzz with hzz | hzz
              · have z1 : ((z.toNat : Nat) : Int) = 34 := by rw [hzz]; rfl
                rw [z1] at hzv
                clear hx hd hd2 h34 hq hy y1 hk1' hk2' h92 hz hzz z1 hel hq2l hq2s HQ2 hes
                go_wp2_with fail
                go_round
                case rel => exact ⟨k2, o ++ [z], q2, hk2p.out.1, hk2p.out.2.1, by go_num, rfl, hq2k.out, HH⟩
                case measure => have := hk2p.out; simp [intOf]; omega
              · have z1 : ((z.toNat : Nat) : Int) = 92 := by rw [hzz]; rfl
                rw [z1] at hzv
                clear hx hd hd2 h34 hq hy y1 hk1' hk2' h92 hz hzz z1 hel hq2l hq2s HQ2 hes
                go_wp2_with fail
                go_round
                case rel => exact ⟨k2, o ++ [z], q2, hk2p.out.1, hk2p.out.2.1, by go_num, rfl, hq2k.out, HH⟩
                case measure => have := hk2p.out; simp [intOf]; omega
            · rw [if_neg hzz] at hx
              have hq := HQ.out.2
              rw [hx] at hq
              have HE : Hid (R = .tuple #[.string ⟨#[]⟩, .int .i64 (-1)]) := Lib.hid (by rw [← HR.out, hq]; rfl)
              have b1 : (((z.toNat : Nat) : Int) != 34) = true := by simpa using fun e => hzz (.inl (UInt8.toNat_inj.1 (by rw [show (34 : UInt8).toNat = 34 from rfl]; omega)))
              have b2 : (((z.toNat : Nat) : Int) != 92) = true := by simpa using fun e => hzz (.inr (UInt8.toNat_inj.1 (by rw [show (92 : UInt8).toNat = 92 from rfl]; omega)))
              rw [y1] at hyv x0
              clear hx hd hd2 h34 hq hy y1 hk1' hk2' h92 hz hzz
              go_wp2_with fail
              go_returns
              exact ⟨by rw [HE.out]; rfl, rfl⟩
          · rw [drop_end s k1 (by omega)] at hx
            have hq := HQ.out.2
            rw [hx] at hq
            have HE : Hid (R = .tuple #[.string ⟨#[]⟩, .int .i64 (-1)]) := Lib.hid (by rw [← HR.out, hq]; rfl)
            have kge : (s.size : Int) ≤ (k1 : Int) := by omega
            rw [y1] at hyv x0
            clear hx hd h34 hq hy y1 hk1' h92 hlt2
            go_wp2_with fail
            go_returns
            exact ⟨by rw [HE.out]; rfl, rfl⟩
        · rw [if_neg h92] at hx
          have hq := HQ.out.2
          rw [hx] at hq
          have HQ2 : qS (s.data.toList.drop p1) = (qS (s.data.toList.drop k1)).map fun r => ((o ++ [y]) ++ r.1, r.2 + (k1 - p1)) := by
            rw [hq]
            cases qS (s.data.toList.drop k1) with
            | none => rfl
            | some r =>
              simp only [Option.map_some, List.append_assoc, List.singleton_append]
              congr 2
              omega
          have x1 : ¬ ((y.toNat : Nat) : Int) = 92 := fun e => h92 (UInt8.toNat_inj.1 (by rw [show (92 : UInt8).toNat = 92 from rfl]; omega))
          obtain ⟨e, he⟩ : ∃ e, s.extract k k1 = e := ⟨_, rfl⟩
          have hel : e.data.toList = [y] := by rw [← he, ext_one s k k1 hlt hk1', hy]
          have hes : e.size = 1 := by rw [← size_list, hel]; rfl
          obtain ⟨q2, hq2⟩ : ∃ q2, qq ++ e = q2 := ⟨_, rfl⟩
          have hq2l : q2.data.toList = o ++ [y] := by rw [← hq2]; exact app_one qq e o y HQ.out.1 hel
          have hq2s : q2.size = qq.size + 1 := by rw [← hq2, ByteArray.size_append, hes]
          have HH := Lib.hid (And.intro hq2l HQ2)
          have k1i : (k1 : Int) ≤ (s.size : Int) := by omega
          have hq2k : Hid (q2.size ≤ k1) := Lib.hid (by omega)
          have hsz2 : qq.size + e.size ≤ 9223372036854775807 := by omega
          have hk1p : Hid (p1 ≤ k1 ∧ k1 ≤ s.size ∧ k < k1) := Lib.hid ⟨by omega, by omega, by omega⟩
          clear hx hd h34 hq hy hk1' h92 hel hq2l hq2s HQ2 hes
          go_wp2_with fail
          go_round
          case rel => exact ⟨k1, o ++ [y], q2, hk1p.out.1, hk1p.out.2.1, by go_num, rfl, hq2k.out, HH⟩
          case measure => have := hk1p.out; simp [intOf]; omega
    · obtain rfl : k = s.size := by omega
      have hq := HQ.out.2
      rw [drop_end s _ (Nat.le_refl _)] at hq
      have HE : Hid (R = .tuple #[.string ⟨#[]⟩, .int .i64 (-1)]) := Lib.hid (by rw [← HR.out, hq]; rfl)
      clear hq
      go_wp2_with fail
      go_returns
      exact ⟨by rw [HE.out]; rfl, rfl⟩

def nmK : Nat → Bs → Bool
  | _, [] => true
  | k, c :: r => (letB c.toNat || (!(k == 0) && decide (48 ≤ c.toNat ∧ c.toNat ≤ 57))) && nmK (k + 1) r
theorem nmK_all (k : Nat) (l : Bs) : nmK (k + 1) l = l.all nmB := by
  induction l generalizing k with
  | nil => rfl
  | cons c r ih => rw [nmK, List.all_cons, ih]; simp [nmB]
theorem nameB_nmK (c : UInt8) (r : Bs) : nameB (c :: r) = (decide ((c :: r).length ≤ 32) && nmK 0 (c :: r)) := by
  rw [nameB_cons, nmK, nmK_all, List.all_cons]
  cases h : letB c.toNat <;> simp [nmB, h]
theorem nmK_cons (k : Nat) (c : UInt8) (r : Bs) : nmK k (c :: r) = ((letB c.toNat || (!(k == 0) && decide (48 ≤ c.toNat ∧ c.toNat ≤ 57))) && nmK (k + 1) r) := rfl

set_option maxHeartbeats 8000000 in
set_option maxRecDepth 100000 in
theorem rname_any (s : ByteArray) (l : Bs) (hl : s.data.toList = l) (b : Bool) (hb : nameB l = b) (w : World) : Calls Tryz.prog 23 #[.string s] w fun e w' => e = .returned (.bool b) ∧ w = w' := by
  have hll : l.length = s.size := by rw [← hl, size_list]
  by_cases h0 : s.size = 0
  · have hl0 : l = [] := List.eq_nil_of_length_eq_zero (by omega)
    subst hl0
    have hs : s = ⟨#[]⟩ := by
      apply ByteArray.ext
      apply Array.toList_inj.1
      rw [hl]
    subst hs
    obtain rfl : b = false := hb.symm
    clear hl hb h0
    go_enter Tryz.func23, Tryz.ntmps23
    go_wp2
    go_ret
    exact ⟨rfl, rfl⟩
  · obtain ⟨c, r, hcr⟩ : ∃ c r, l = c :: r := by
      cases l with
      | nil => rw [List.length_nil] at hll; omega
      | cons c r => exact ⟨c, r, rfl⟩
    have hp0 : 0 < s.size := by omega
    have hne : s.toList.isEmpty = false := by rw [Lib.toList_data, hl, hcr]; rfl
    by_cases h32 : 32 < s.size
    · have hb' : b = false := by rw [← hb, hcr]; rw [nameB_cons, decide_eq_false (show ¬ (c :: r).length ≤ 32 by rw [← hcr]; omega)]; rfl
      subst hb'
      have h32i : (32 : Int) < (s.size : Int) := by omega
      clear hl hb hcr hll
      go_enter Tryz.func23, Tryz.ntmps23
      go_wp2
      go_ret
      exact ⟨rfl, rfl⟩
    have h32i : ¬ (32 : Int) < (s.size : Int) := by omega
    have HB : Hid (nmK 0 s.data.toList = b) := Lib.hid (by
      rw [hl, ← hb, hcr, nameB_nmK, decide_eq_true (show (c :: r).length ≤ 32 by rw [← hcr]; omega), Bool.true_and])
    clear hl hb hcr hll
    go_enter Tryz.func23, Tryz.ntmps23
    go_wp2_with fail
    go_loop [3] (fun i => ∃ k : Nat, k ≤ s.size ∧ i = .int .i64 (k : Int) ∧ Hid (nmK k (s.data.toList.drop k) = b)) (fun i => s.size - (intOf i).toNat)
    case atStart => exact ⟨0, by omega, rfl, Lib.hid (by rw [List.drop_zero]; exact HB.out)⟩
    case round =>
      obtain ⟨k, hk, rfl, HK⟩ := hrel
      by_cases hlt : k < s.size
      · have hd := byte_drop s k hlt
        have hst := HK.out
        rw [hd, nmK_cons] at hst
        obtain ⟨y, hy⟩ : ∃ y, s[k]'hlt = y := ⟨_, rfl⟩
        have hyv : (((s[k]'hlt).toNat : Nat) : Int) = ((y.toNat : Nat) : Int) := by rw [hy]
        rw [hy] at hst
        obtain ⟨n, hn⟩ : ∃ n, y.toNat = n := ⟨_, rfl⟩
        rw [hn] at hst hyv
        clear hd hy hn
        by_cases g1 : 97 ≤ n ∧ n ≤ 122
        · obtain ⟨g1, g2⟩ := g1
          have HK2 : Hid (nmK (k + 1) (s.data.toList.drop (k + 1)) = b) := Lib.hid (by
            rw [← hst, show letB n = true from decide_eq_true (by omega)]; rfl)
          have f0 : (97 : Int) ≤ (n : Int) := by omega
          have f1 : (n : Int) ≤ 122 := by omega
          clear hst
          go_wp2_with fail
          go_round
          case rel => exact ⟨k + 1, by omega, by go_num, HK2⟩
          case measure => simp [intOf]; omega
        by_cases g2 : 65 ≤ n ∧ n ≤ 90
        · obtain ⟨g2, g3⟩ := g2
          have HK2 : Hid (nmK (k + 1) (s.data.toList.drop (k + 1)) = b) := Lib.hid (by
            rw [← hst, show letB n = true from decide_eq_true (by omega)]; rfl)
          have f0 : ¬ (97 : Int) ≤ (n : Int) := by omega
          have f1 : (65 : Int) ≤ (n : Int) := by omega
          have f2 : (n : Int) ≤ 90 := by omega
          clear g1
          clear hst
          go_wp2_with fail
          go_round
          case rel => exact ⟨k + 1, by omega, by go_num, HK2⟩
          case measure => simp [intOf]; omega
        by_cases g3 : n = 95
        · subst g3
          have HK2 : Hid (nmK (k + 1) (s.data.toList.drop (k + 1)) = b) := Lib.hid (by
            rw [← hst, show letB 95 = true from decide_eq_true (by decide)]; rfl)
          clear g1 g2
          clear hst
          go_wp2_with fail
          go_round
          case rel => exact ⟨k + 1, by omega, by go_num, HK2⟩
          case measure => simp [intOf]; omega
        have hlf : letB n = false := decide_eq_false (by omega)
        rw [hlf, Bool.false_or] at hst
        clear hlf
        by_cases hk0 : k = 0
        · subst hk0
          have Hst : Hid (false = b) := Lib.hid hst
          clear hst
          by_cases ca : n < 48
          · have f0 : ¬ (97 : Int) ≤ (n : Int) := by omega
            have f1 : ¬ (65 : Int) ≤ (n : Int) := by omega
            have f2 : ((n : Int) == 95) = false := by simp; omega
            have f3 : (n : Int) < 48 := by omega
            clear g1 g2 g3 ca
            go_wp2_with fail
            go_ret
            exact ⟨by rw [← Hst.out]; rfl, rfl⟩
          by_cases cd : 48 ≤ n ∧ n ≤ 57
          · have f0 : ¬ (97 : Int) ≤ (n : Int) := by omega
            have f1 : ¬ (65 : Int) ≤ (n : Int) := by omega
            have f2 : ((n : Int) == 95) = false := by simp; omega
            have f3 : ¬ (n : Int) < 48 := by omega
            have f4 : ¬ (57 : Int) < (n : Int) := by omega
            clear g1 g2 g3 cd
            go_wp2_with fail
            go_ret
            exact ⟨by rw [← Hst.out]; rfl, rfl⟩
          by_cases ce : 58 ≤ n ∧ n < 65
          · have f0 : ¬ (97 : Int) ≤ (n : Int) := by omega
            have f1 : ¬ (65 : Int) ≤ (n : Int) := by omega
            have f2 : ((n : Int) == 95) = false := by simp; omega
            have f3 : ¬ (n : Int) < 48 := by omega
            have f4 : (57 : Int) < (n : Int) := by omega
            clear g1 g2 g3 ce
            go_wp2_with fail
            go_ret
            exact ⟨by rw [← Hst.out]; rfl, rfl⟩
          by_cases cf : 91 ≤ n ∧ n < 97
          · have f0 : ¬ (97 : Int) ≤ (n : Int) := by omega
            have f1 : (65 : Int) ≤ (n : Int) := by omega
            have f2 : ¬ (n : Int) ≤ 90 := by omega
            have f3 : ((n : Int) == 95) = false := by simp; omega
            have f4 : ¬ (n : Int) < 48 := by omega
            have f5 : (57 : Int) < (n : Int) := by omega
            clear g1 g2 g3 cf
            go_wp2_with fail
            go_ret
            exact ⟨by rw [← Hst.out]; rfl, rfl⟩
          by_cases cg : 123 ≤ n
          · have f0 : (97 : Int) ≤ (n : Int) := by omega
            have f1 : ¬ (n : Int) ≤ 122 := by omega
            have f2 : (65 : Int) ≤ (n : Int) := by omega
            have f3 : ¬ (n : Int) ≤ 90 := by omega
            have f4 : ((n : Int) == 95) = false := by simp; omega
            have f5 : ¬ (n : Int) < 48 := by omega
            have f6 : (57 : Int) < (n : Int) := by omega
            clear g1 g2 g3 cg
            go_wp2_with fail
            go_ret
            exact ⟨by rw [← Hst.out]; rfl, rfl⟩
          omega
        have hk1 : ((k : Int) == 0) = false := by simp; omega
        have hkb : (k == 0) = false := by simpa using hk0
        rw [hkb, Bool.not_false, Bool.true_and] at hst
        clear hkb
        by_cases ca : n < 48
        · have f0 : ¬ (97 : Int) ≤ (n : Int) := by omega
          have f1 : ¬ (65 : Int) ≤ (n : Int) := by omega
          have f2 : ((n : Int) == 95) = false := by simp; omega
          have f3 : (n : Int) < 48 := by omega
          have Hst : Hid (false = b) := Lib.hid (by rw [decide_eq_false (by omega), Bool.false_and] at hst; exact hst)
          clear hst g1 g2 g3 ca
          go_wp2_with fail
          go_ret
          exact ⟨by rw [← Hst.out]; rfl, rfl⟩
        by_cases cd : 48 ≤ n ∧ n ≤ 57
        · have f0 : ¬ (97 : Int) ≤ (n : Int) := by omega
          have f1 : ¬ (65 : Int) ≤ (n : Int) := by omega
          have f2 : ((n : Int) == 95) = false := by simp; omega
          have f3 : ¬ (n : Int) < 48 := by omega
          have f4 : ¬ (57 : Int) < (n : Int) := by omega
          have HK2 : Hid (nmK (k + 1) (s.data.toList.drop (k + 1)) = b) := Lib.hid (by
            rw [← hst, decide_eq_true cd]; rfl)
          clear g1 g2 g3 cd
          clear hst
          go_wp2_with fail
          go_round
          case rel => exact ⟨k + 1, by omega, by go_num, HK2⟩
          case measure => simp [intOf]; omega
        by_cases ce : 58 ≤ n ∧ n < 65
        · have f0 : ¬ (97 : Int) ≤ (n : Int) := by omega
          have f1 : ¬ (65 : Int) ≤ (n : Int) := by omega
          have f2 : ((n : Int) == 95) = false := by simp; omega
          have f3 : ¬ (n : Int) < 48 := by omega
          have f4 : (57 : Int) < (n : Int) := by omega
          have Hst : Hid (false = b) := Lib.hid (by rw [decide_eq_false (by omega), Bool.false_and] at hst; exact hst)
          clear hst g1 g2 g3 ce
          go_wp2_with fail
          go_ret
          exact ⟨by rw [← Hst.out]; rfl, rfl⟩
        by_cases cf : 91 ≤ n ∧ n < 97
        · have f0 : ¬ (97 : Int) ≤ (n : Int) := by omega
          have f1 : (65 : Int) ≤ (n : Int) := by omega
          have f2 : ¬ (n : Int) ≤ 90 := by omega
          have f3 : ((n : Int) == 95) = false := by simp; omega
          have f4 : ¬ (n : Int) < 48 := by omega
          have f5 : (57 : Int) < (n : Int) := by omega
          have Hst : Hid (false = b) := Lib.hid (by rw [decide_eq_false (by omega), Bool.false_and] at hst; exact hst)
          clear hst g1 g2 g3 cf
          go_wp2_with fail
          go_ret
          exact ⟨by rw [← Hst.out]; rfl, rfl⟩
        by_cases cg : 123 ≤ n
        · have f0 : (97 : Int) ≤ (n : Int) := by omega
          have f1 : ¬ (n : Int) ≤ 122 := by omega
          have f2 : (65 : Int) ≤ (n : Int) := by omega
          have f3 : ¬ (n : Int) ≤ 90 := by omega
          have f4 : ((n : Int) == 95) = false := by simp; omega
          have f5 : ¬ (n : Int) < 48 := by omega
          have f6 : (57 : Int) < (n : Int) := by omega
          have Hst : Hid (false = b) := Lib.hid (by rw [decide_eq_false (by omega), Bool.false_and] at hst; exact hst)
          clear hst g1 g2 g3 cg
          go_wp2_with fail
          go_ret
          exact ⟨by rw [← Hst.out]; rfl, rfl⟩
        omega
      · obtain rfl : k = s.size := by omega
        have hst := HK.out
        rw [drop_end s _ (Nat.le_refl _)] at hst
        have Hst : Hid (true = b) := Lib.hid hst
        clear hst
        go_wp2
        go_ret
        exact ⟨by rw [← Hst.out]; rfl, rfl⟩

theorem str_eq (s : ByteArray) (l q : Bs) (hl : s.data.toList = l) : (s.toList == q) = (l == q) := by rw [Lib.toList_data, hl]
set_option maxHeartbeats 4000000 in
set_option maxRecDepth 100000 in
theorem rword_any (s : ByteArray) (l : Bs) (hl : s.data.toList = l) (b : Bool) (hb : wordB l = b) (w : World) : Calls Tryz.prog 13 #[.string s] w fun e w' => e = .returned (.bool b) ∧ w = w' := by
  have HN := Lib.hid (fun b hb W => rname_any s l hl b hb W)
  have e0 := str_eq s l [110, 117, 108, 108] hl
  by_cases h0 : l = [110, 117, 108, 108]
  · have hb2 : false = b := by rw [← hb, h0]; rfl
    have Hb := Lib.hid hb2
    rw [show (l == [110, 117, 108, 108]) = true by rw [h0]; rfl] at e0
    clear hl hb hb2 h0 HN
    go_enter Tryz.func13, Tryz.ntmps13
    go_wp2_with fail
    go_ret
    exact ⟨by rw [← Hb.out]; rfl, rfl⟩
  rw [show (l == [110, 117, 108, 108]) = false by simpa using h0] at e0
  have e1 := str_eq s l [116, 114, 117, 101] hl
  by_cases h1 : l = [116, 114, 117, 101]
  · have hb2 : false = b := by rw [← hb, h1]; rfl
    have Hb := Lib.hid hb2
    rw [show (l == [116, 114, 117, 101]) = true by rw [h1]; rfl] at e1
    clear hl hb hb2 h1 HN h0
    go_enter Tryz.func13, Tryz.ntmps13
    go_wp2_with fail
    go_ret
    exact ⟨by rw [← Hb.out]; rfl, rfl⟩
  rw [show (l == [116, 114, 117, 101]) = false by simpa using h1] at e1
  have e2 := str_eq s l [102, 97, 108, 115, 101] hl
  by_cases h2 : l = [102, 97, 108, 115, 101]
  · have hb2 : false = b := by rw [← hb, h2]; rfl
    have Hb := Lib.hid hb2
    rw [show (l == [102, 97, 108, 115, 101]) = true by rw [h2]; rfl] at e2
    clear hl hb hb2 h2 HN h0 h1
    go_enter Tryz.func13, Tryz.ntmps13
    go_wp2_with fail
    go_ret
    exact ⟨by rw [← Hb.out]; rfl, rfl⟩
  rw [show (l == [102, 97, 108, 115, 101]) = false by simpa using h2] at e2
  have e3 := str_eq s l [97, 110, 100] hl
  by_cases h3 : l = [97, 110, 100]
  · have hb2 : false = b := by rw [← hb, h3]; rfl
    have Hb := Lib.hid hb2
    rw [show (l == [97, 110, 100]) = true by rw [h3]; rfl] at e3
    clear hl hb hb2 h3 HN h0 h1 h2
    go_enter Tryz.func13, Tryz.ntmps13
    go_wp2_with fail
    go_ret
    exact ⟨by rw [← Hb.out]; rfl, rfl⟩
  rw [show (l == [97, 110, 100]) = false by simpa using h3] at e3
  have e4 := str_eq s l [111, 114] hl
  by_cases h4 : l = [111, 114]
  · have hb2 : false = b := by rw [← hb, h4]; rfl
    have Hb := Lib.hid hb2
    rw [show (l == [111, 114]) = true by rw [h4]; rfl] at e4
    clear hl hb hb2 h4 HN h0 h1 h2 h3
    go_enter Tryz.func13, Tryz.ntmps13
    go_wp2_with fail
    go_ret
    exact ⟨by rw [← Hb.out]; rfl, rfl⟩
  rw [show (l == [111, 114]) = false by simpa using h4] at e4
  have e5 := str_eq s l [110, 111, 116] hl
  by_cases h5 : l = [110, 111, 116]
  · have hb2 : false = b := by rw [← hb, h5]; rfl
    have Hb := Lib.hid hb2
    rw [show (l == [110, 111, 116]) = true by rw [h5]; rfl] at e5
    clear hl hb hb2 h5 HN h0 h1 h2 h3 h4
    go_enter Tryz.func13, Tryz.ntmps13
    go_wp2_with fail
    go_ret
    exact ⟨by rw [← Hb.out]; rfl, rfl⟩
  rw [show (l == [110, 111, 116]) = false by simpa using h5] at e5
  have e6 := str_eq s l [105, 102] hl
  by_cases h6 : l = [105, 102]
  · have hb2 : false = b := by rw [← hb, h6]; rfl
    have Hb := Lib.hid hb2
    rw [show (l == [105, 102]) = true by rw [h6]; rfl] at e6
    clear hl hb hb2 h6 HN h0 h1 h2 h3 h4 h5
    go_enter Tryz.func13, Tryz.ntmps13
    go_wp2_with fail
    go_ret
    exact ⟨by rw [← Hb.out]; rfl, rfl⟩
  rw [show (l == [105, 102]) = false by simpa using h6] at e6
  have e7 := str_eq s l [116, 104, 101, 110] hl
  by_cases h7 : l = [116, 104, 101, 110]
  · have hb2 : false = b := by rw [← hb, h7]; rfl
    have Hb := Lib.hid hb2
    rw [show (l == [116, 104, 101, 110]) = true by rw [h7]; rfl] at e7
    clear hl hb hb2 h7 HN h0 h1 h2 h3 h4 h5 h6
    go_enter Tryz.func13, Tryz.ntmps13
    go_wp2_with fail
    go_ret
    exact ⟨by rw [← Hb.out]; rfl, rfl⟩
  rw [show (l == [116, 104, 101, 110]) = false by simpa using h7] at e7
  have e8 := str_eq s l [101, 108, 115, 101] hl
  by_cases h8 : l = [101, 108, 115, 101]
  · have hb2 : false = b := by rw [← hb, h8]; rfl
    have Hb := Lib.hid hb2
    rw [show (l == [101, 108, 115, 101]) = true by rw [h8]; rfl] at e8
    clear hl hb hb2 h8 HN h0 h1 h2 h3 h4 h5 h6 h7
    go_enter Tryz.func13, Tryz.ntmps13
    go_wp2_with fail
    go_ret
    exact ⟨by rw [← Hb.out]; rfl, rfl⟩
  rw [show (l == [101, 108, 115, 101]) = false by simpa using h8] at e8
  have hnl : wordsL.contains l = false := by
    have : l ∉ wordsL := by
      unfold wordsL
      simp only [List.mem_cons, List.not_mem_nil, or_false, not_or]
      exact ⟨h0, h1, h2, h3, h4, h5, h6, h7, h8⟩
    simpa using this
  have hb2 : nameB l = b := by rw [← hb]; unfold wordB; rw [hnl, Bool.not_false, Bool.and_true]
  have HN2 := Lib.hid (fun W => HN.out b hb2 W)
  clear hl hb hb2 hnl h0 h1 h2 h3 h4 h5 h6 h7 h8 HN
  go_enter Tryz.func13, Tryz.ntmps13
  go_wp2_with fail
  refine (HN2.out _).mono ?_
  rintro _ _ ⟨rfl, rfl⟩
  go_wp2_with fail
  go_ret
  exact ⟨rfl, rfl⟩
end Go.Proofs.YtambpkkllgppdaaGreatDoor
