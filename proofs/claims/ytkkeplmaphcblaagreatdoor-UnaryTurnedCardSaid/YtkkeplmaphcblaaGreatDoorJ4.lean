/- The walks of chars.letter, chars.Name, slices.Contains of texts, lex.Word. The walks of slices.Contains of texts, lex.words, lex.Word. The walk of lex.one at a token that stands. The walk of lex.Join at tokens that stand. The walks of the small methods of expr.Parser. The walks of the methods of expr.Parser, in all their ways. The walks of package deci: powers of ten, the shortest form, numbers made. The walks of package deci: Make, Sound, all, units, Neg, size. The walks of package deci: all, Neg, size, Compare, Add. The walks of package deci: Compare, Add. strconv.FormatUint at base 10. The walks of package deci: digits, Parse. Plain laws of numerals: digits with leading noughts. No program in sight. Plain arithmetic of rows of digits: no program in sight. The walks of the reference of package deci: size, Make, Sound. The walks of the reference's rows of digits: digits, plus. The walk of the reference's dec: a row of digits, rounded, as a number. The walk of the reference's Parse. -/
import Derived.Laws.IdiomStrings
import Derived.Deep.LoopGhost
import Derived.Lib.Builder
import Derived.Deep.QuietTactic
import Derived.BigQuiet
import Derived.Test.YtkkeplmaphcblaaGreatDoorJ3
import Derived.OwnWalk
import Derived.Test.YtkkeplmaphcblaaGreatDoorJ1
import Derived.Lib.Walk
import Derived.Lib.ItoaWalk
import Derived.Lib.ItoaMem
import Derived.Lib.AppendIntMem
import Derived.Lib.Slices
import Derived.BigCall
import Derived.BigGuard
import Derived.Test.YtkkeplmaphcblaaGreatDoorJ2
import Derived.Shelf.Strings.SlTrimAscii
import Derived.Lib.AtoiErrMem
import Derived.Lib.ItoaNum
import Derived.Lib.Atoi
import Derived.Lib.SlTrimSet
import Derived.Deep.OwnRows
import Derived.Deep.DeepCutAuto
namespace Go.Proofs.YtkkeplmaphcblaaGreatDoor
open Go.RowKit

def byteW (s : ByteArray) (j : Nat) : UInt8 := s.data.toList.getD j 0
theorem byteW_eq (s : ByteArray) (j : Nat) (h : j < s.size) : byteW s j = s[j] := by
  have h2 : j < s.data.toList.length := by rw [size_list]; exact h
  unfold byteW
  rw [List.getD_eq_getElem?_getD, List.getElem?_eq_getElem h2]
  rfl
def letB (n : Nat) : Bool := decide (97 ≤ n ∧ n ≤ 122 ∨ 65 ≤ n ∧ n ≤ 90 ∨ n = 95)
set_option maxHeartbeats 1000000 in
theorem letter_any (n : Nat) (b : Bool) (hb : letB n = b) (w : World) : Calls Tryz.prog 194 #[.int .u8 (n : Int)] w fun e w' => e = .returned (.bool b) ∧ w = w' := by
  subst hb
  unfold letB
  by_cases g1 : 97 ≤ n ∧ n ≤ 122
  · rw [decide_eq_true (Or.inl g1)]
    have k1 : (97 : Int) ≤ (n : Int) := by omega
    have k2 : (n : Int) ≤ 122 := by omega
    clear g1
    go_enter Tryz.func194, Tryz.ntmps194
    go_wp2
    go_ret
    exact ⟨rfl, rfl⟩
  by_cases g2 : 65 ≤ n ∧ n ≤ 90
  · rw [decide_eq_true (Or.inr (Or.inl g2))]
    have k1 : ¬ (97 : Int) ≤ (n : Int) := by omega
    have k2 : (65 : Int) ≤ (n : Int) := by omega
    have k3 : (n : Int) ≤ 90 := by omega
    clear g1 g2
    go_enter Tryz.func194, Tryz.ntmps194
    go_wp2
    go_ret
    exact ⟨rfl, rfl⟩
  by_cases g3 : n = 95
  · subst g3
    go_enter Tryz.func194, Tryz.ntmps194
    go_wp2
    go_ret
    exact ⟨rfl, rfl⟩
  · rw [decide_eq_false (by rintro (h | h | h); · exact g1 h
                            · exact g2 h
                            · exact g3 h)]
    have e1 : (((n : Nat) : Int) == 95) = false := by simp; omega
    by_cases k1 : 97 ≤ n
    · have k2 : (97 : Int) ≤ (n : Int) := by omega
      have k3 : ¬ (n : Int) ≤ 122 := by omega
      have k4 : (65 : Int) ≤ (n : Int) := by omega
      have k5 : ¬ (n : Int) ≤ 90 := by omega
      clear g1 g2 g3 k1
      go_enter Tryz.func194, Tryz.ntmps194
      go_wp2
      go_ret
      exact ⟨rfl, rfl⟩
    · have k2 : ¬ (97 : Int) ≤ (n : Int) := by omega
      by_cases k3 : 65 ≤ n
      · have k4 : (65 : Int) ≤ (n : Int) := by omega
        have k5 : ¬ (n : Int) ≤ 90 := by omega
        clear g1 g2 g3 k1 k3
        go_enter Tryz.func194, Tryz.ntmps194
        go_wp2
        go_ret
        exact ⟨rfl, rfl⟩
      · have k4 : ¬ (65 : Int) ≤ (n : Int) := by omega
        clear g1 g2 g3 k1 k3
        go_enter Tryz.func194, Tryz.ntmps194
        go_wp2
        go_ret
        exact ⟨rfl, rfl⟩

def nmB (b : UInt8) : Bool := letB b.toNat || decide (48 ≤ b.toNat ∧ b.toNat ≤ 57)
def nameB : Bs → Bool
  | [] => false
  | c :: r => decide ((c :: r).length ≤ 32) && letB c.toNat && (c :: r).all nmB

theorem nameB_cons (c : UInt8) (r : Bs) : nameB (c :: r) = (decide ((c :: r).length ≤ 32) && letB c.toNat && (c :: r).all nmB) := rfl
theorem bytes_at (s : ByteArray) (cap j : Nat) (h : j < s.size) : (bytesRow s cap)[j]? = some (.int .u8 ((s[j].toNat : Nat) : Int)) := bytesRow_at s cap j h
set_option maxHeartbeats 2000000 in
set_option maxRecDepth 100000 in
theorem name_any (s : ByteArray) (l : Bs) (hl : s.data.toList = l) (b : Bool) (hb : nameB l = b) (w : World) : Calls Tryz.prog 151 #[.string s] w fun e w' => e = .returned (.bool b) ∧ Below w.heap.size w w' := by
  have hll : l.length = s.size := by rw [← hl, size_list]
  have hcv := fun w s => run_bytes_of_string (P := Tryz.prog) w 9 93 5 s Tryz.underlying9 Tryz.underlying93 Tryz.underlying5
  by_cases h0 : s.size = 0
  · have hl0 : l = [] := List.eq_nil_of_length_eq_zero (by omega)
    subst hl0
    have hs : s = ⟨#[]⟩ := by
      apply ByteArray.ext
      apply Array.toList_inj.1
      rw [hl]
    subst hs
    obtain rfl : b = false := hb.symm
    clear hl hb h0 hcv
    go_enter Tryz.func151, Tryz.ntmps151
    go_wp2
    go_ret
    exact ⟨rfl, by (repeat' (first | (with_reducible exact Below.refl _ _) | (with_reducible assumption) | (with_reducible refine balloc ?_ _) | (with_reducible refine Below.drew ?_) | (with_reducible refine bset ?_ ?_ _) | (with_reducible refine bstep ?_ (by with_reducible assumption)) | (with_reducible refine bturn ?_ (by with_reducible assumption) ?_) | go_size))⟩
  · obtain ⟨c, r, hcr⟩ : ∃ c r, l = c :: r := by
      cases l with
      | nil => rw [List.length_nil] at hll; omega
      | cons c r => exact ⟨c, r, rfl⟩
    have hp0 : 0 < s.size := by omega
    have hne : s.toList.isEmpty = false := by rw [Lib.toList_data, hl, hcr]; rfl
    have hc : s[0]'hp0 = c := head_of (hl.trans hcr) hp0
    have hv : (((s[0]'hp0).toNat : Nat) : Int) = ((c.toNat : Nat) : Int) := by rw [hc]
    by_cases h32 : 32 < s.size
    · have hb' : b = false := by rw [← hb, hcr]; rw [nameB_cons, decide_eq_false (show ¬ (c :: r).length ≤ 32 by rw [← hcr]; omega)]; rfl
      subst hb'
      have h32i : (32 : Int) < (s.size : Int) := by omega
      clear hl hb hcv hc hv hcr hll
      go_enter Tryz.func151, Tryz.ntmps151
      go_wp2
      go_ret
      exact ⟨rfl, by (repeat' (first | (with_reducible exact Below.refl _ _) | (with_reducible assumption) | (with_reducible refine balloc ?_ _) | (with_reducible refine Below.drew ?_) | (with_reducible refine bset ?_ ?_ _) | (with_reducible refine bstep ?_ (by with_reducible assumption)) | (with_reducible refine bturn ?_ (by with_reducible assumption) ?_) | go_size))⟩
    have h32i : ¬ (32 : Int) < (s.size : Int) := by omega
    cases hlt : letB c.toNat with
    | false =>
      have hb' : b = false := by rw [← hb, hcr]; rw [nameB_cons]; rw [hlt, Bool.and_false]; rfl
      subst hb'
      have HL := Lib.hid (fun W => letter_any c.toNat false hlt W)
      clear hl hb hcv hc hcr hll hlt
      go_enter Tryz.func151, Tryz.ntmps151
      go_wp2_with fail
      refine (HL.out _).mono ?_
      rintro _ _ ⟨rfl, rfl⟩
      go_wp2
      go_ret
      exact ⟨rfl, by (repeat' (first | (with_reducible exact Below.refl _ _) | (with_reducible assumption) | (with_reducible refine balloc ?_ _) | (with_reducible refine Below.drew ?_) | (with_reducible refine bset ?_ ?_ _) | (with_reducible refine bstep ?_ (by with_reducible assumption)) | (with_reducible refine bturn ?_ (by with_reducible assumption) ?_) | go_size))⟩
    | true =>
      have hb' : l.all nmB = b := by rw [← hb, hcr]; rw [nameB_cons, hlt, decide_eq_true (show (c :: r).length ≤ 32 by rw [← hcr]; omega)]; rfl
      have HB := Lib.hid hb'
      have HL := Lib.hid (fun W => letter_any c.toNat true hlt W)
      have Hl := Lib.hid hl
      clear hl hb hc hcr hll hlt hb'
      go_enter Tryz.func151, Tryz.ntmps151
      go_wp2_with fail
      refine (HL.out _).mono ?_
      rintro _ _ ⟨rfl, rfl⟩
      go_wp2_with fail
      have hrow : ∀ j, j < s.size → ((w.alloc (.cells (bytesRow s (grownCap w s.size 0 5)) 5 ((bytesRow s (grownCap w s.size 0 5)).size, (bytesRow s (grownCap w s.size 0 5)).size + 1))).drew).cell? ⟨w.heap.size, j, none⟩ = some (.int .u8 (byteW s j).toNat) := by
        intro j hj
        have e : ((w.alloc (.cells (bytesRow s (grownCap w s.size 0 5)) 5 ((bytesRow s (grownCap w s.size 0 5)).size, (bytesRow s (grownCap w s.size 0 5)).size + 1))).drew).heap[w.heap.size]? = some (.cells (bytesRow s (grownCap w s.size 0 5)) 5 ((bytesRow s (grownCap w s.size 0 5)).size, (bytesRow s (grownCap w s.size 0 5)).size + 1)) := by
          show (w.heap.push _)[w.heap.size]? = _
          simp
        rw [Lib.cell_of_heap e, bytes_at s _ j hj, byteW_eq s j hj]
      have hbl : Below w.heap.size w ((w.alloc (.cells (bytesRow s (grownCap w s.size 0 5)) 5 ((bytesRow s (grownCap w s.size 0 5)).size, (bytesRow s (grownCap w s.size 0 5)).size + 1))).drew) := by (repeat' (first | (with_reducible exact Below.refl _ _) | (with_reducible assumption) | (with_reducible refine balloc ?_ _) | (with_reducible refine Below.drew ?_) | (with_reducible refine bset ?_ ?_ _) | (with_reducible refine bstep ?_ (by with_reducible assumption)) | (with_reducible refine bturn ?_ (by with_reducible assumption) ?_) | go_size))
      generalize ((w.alloc (.cells (bytesRow s (grownCap w s.size 0 5)) 5 ((bytesRow s (grownCap w s.size 0 5)).size, (bytesRow s (grownCap w s.size 0 5)).size + 1))).drew) = W at hrow hbl ⊢
      have HRow := Lib.hid hrow
      clear hrow hcv
      go_loop [21, 4] (fun i _ => ∃ k : Nat, k ≤ s.size ∧ i = .int .i64 (k : Int) ∧ Hid ((s.data.toList.drop k).all nmB = b)) (fun i _ => s.size - (intOf i).toNat)
      case atStart => exact ⟨0, by omega, rfl, Lib.hid (by rw [List.drop_zero, Hl.out]; exact HB.out)⟩
      case round =>
        obtain ⟨k, hk, rfl, HK⟩ := hrel
        by_cases hlt : k < s.size
        · have hcell := HRow.out k hlt
          have hd := byte_drop s k hlt
          have hst := HK.out
          rw [hd, List.all_cons, ← byteW_eq s k hlt] at hst
          obtain ⟨y, hy⟩ : ∃ y, byteW s k = y := ⟨_, rfl⟩
          rw [hy] at hcell hst
          cases hlet : letB y.toNat with
          | true =>
            have HL2 := Lib.hid (fun W => letter_any y.toNat true hlet W)
            have HK2 : Hid ((s.data.toList.drop (k + 1)).all nmB = b) := Lib.hid (by
              rw [← hst]
              have : nmB y = true := by unfold nmB; rw [hlet]; rfl
              rw [this, Bool.true_and])
            clear hd hst hy hlet
            go_wp2_with fail
            refine (HL2.out _).mono ?_
            rintro _ _ ⟨rfl, rfl⟩
            go_wp2_with fail
            go_round
            case rel => exact ⟨k + 1, by omega, by go_num, HK2⟩
            case measure => simp [intOf]; omega
          | false =>
            have HL2 := Lib.hid (fun W => letter_any y.toNat false hlet W)
            by_cases hdg : 48 ≤ y.toNat ∧ y.toNat ≤ 57
            · have HK2 : Hid ((s.data.toList.drop (k + 1)).all nmB = b) := Lib.hid (by
                rw [← hst]
                have : nmB y = true := by unfold nmB; rw [hlet, decide_eq_true hdg]; rfl
                rw [this, Bool.true_and])
              have d1 : ¬ ((y.toNat : Nat) : Int) < 48 := by omega
              have d2 : ¬ (57 : Int) < ((y.toNat : Nat) : Int) := by omega
              clear hd hst hy hlet hdg
              go_wp2_with fail
              refine (HL2.out _).mono ?_
              rintro _ _ ⟨rfl, rfl⟩
              go_wp2_with fail
              go_round
              case rel => exact ⟨k + 1, by omega, by go_num, HK2⟩
              case measure => simp [intOf]; omega
            · have hb' : b = false := by
                rw [← hst]
                have : nmB y = false := by unfold nmB; rw [hlet, decide_eq_false hdg]; rfl
                rw [this, Bool.false_and]
              subst hb'
              by_cases d1 : y.toNat < 48
              · have d1i : ((y.toNat : Nat) : Int) < 48 := by omega
                clear hd hst hy hlet hdg d1
                go_wp2_with fail
                refine (HL2.out _).mono ?_
                rintro _ _ ⟨rfl, rfl⟩
                go_wp2
                go_ret
                exact ⟨rfl, by (repeat' (first | (with_reducible exact Below.refl _ _) | (with_reducible assumption) | (with_reducible refine balloc ?_ _) | (with_reducible refine Below.drew ?_) | (with_reducible refine bset ?_ ?_ _) | (with_reducible refine bstep ?_ (by with_reducible assumption)) | (with_reducible refine bturn ?_ (by with_reducible assumption) ?_) | go_size))⟩
              · have d1i : ¬ ((y.toNat : Nat) : Int) < 48 := by omega
                have d2 : (57 : Int) < ((y.toNat : Nat) : Int) := by omega
                clear hd hst hy hlet hdg d1
                go_wp2_with fail
                refine (HL2.out _).mono ?_
                rintro _ _ ⟨rfl, rfl⟩
                go_wp2
                go_ret
                exact ⟨rfl, by (repeat' (first | (with_reducible exact Below.refl _ _) | (with_reducible assumption) | (with_reducible refine balloc ?_ _) | (with_reducible refine Below.drew ?_) | (with_reducible refine bset ?_ ?_ _) | (with_reducible refine bstep ?_ (by with_reducible assumption)) | (with_reducible refine bturn ?_ (by with_reducible assumption) ?_) | go_size))⟩
        · obtain rfl : k = s.size := by omega
          have hst := HK.out
          rw [drop_end s _ (Nat.le_refl _)] at hst
          obtain rfl : b = true := hst.symm
          clear hst
          go_wp2
          go_ret
          exact ⟨rfl, by (repeat' (first | (with_reducible exact Below.refl _ _) | (with_reducible assumption) | (with_reducible refine balloc ?_ _) | (with_reducible refine Below.drew ?_) | (with_reducible refine bset ?_ ?_ _) | (with_reducible refine bstep ?_ (by with_reducible assumption)) | (with_reducible refine bturn ?_ (by with_reducible assumption) ?_) | go_size))⟩
end Go.Proofs.YtkkeplmaphcblaaGreatDoor

namespace Go.Proofs.YtkkeplmaphcblaaGreatDoor
open Go.RowKit

def wordsL : List Bs := [[110, 117, 108, 108], [116, 114, 117, 101], [102, 97, 108, 115, 101], [97, 110, 100], [111, 114], [110, 111, 116], [105, 102], [116, 104, 101, 110], [101, 108, 115, 101]]
def wordB (l : Bs) : Bool := nameB l && !wordsL.contains l
theorem words_any (w : World) : Calls Tryz.prog 153 #[] w fun e w' => (∃ g, e = .returned (.slice (some ⟨g, 0, none⟩) 9 9) ∧ SS w' g wordsL) ∧ Below w.heap.size w w' := by
  go_enter Tryz.func153, Tryz.ntmps153
  go_wp2_with fail
  go_returns
  exact ⟨⟨_, rfl, SS.of_blk (Blk.new _ _ _)⟩, by (repeat' (first | (with_reducible exact Below.refl _ _) | (with_reducible assumption) | (with_reducible refine balloc ?_ _) | (with_reducible refine Below.drew ?_) | (with_reducible refine bset ?_ ?_ _) | (with_reducible refine bstep ?_ (by with_reducible assumption)) | (with_reducible refine bturn ?_ (by with_reducible assumption) ?_) | go_size))⟩

set_option maxHeartbeats 2000000 in
set_option maxRecDepth 100000 in
theorem index_any (L : List Bs) (hL : L.length ≤ 1000) (g c : Nat) (s : ByteArray) (l : Bs) (hl : s.data.toList = l) (b : Bool) (hb : L.contains l = b) (w : World) (hS : SS w g L) :
    Calls Tryz.prog 195 #[.slice (some ⟨g, 0, none⟩) L.length c, .string s] w fun e w' => (∃ i : Int, e = .returned (.int .i64 i) ∧ decide (0 ≤ i) = b) ∧ w = w' := by
  have Hl := Lib.hid hl
  have Hb := Lib.hid hb
  have HS := Lib.hid hS
  clear hl hb hS
  go_enter Tryz.func195, Tryz.ntmps195
  go_wp2_with fail
  go_loop [8, 5] (fun i _ => ∃ k : Nat, k ≤ L.length ∧ i = .int .i64 (k : Int) ∧ Hid ((L.drop k).contains l = b)) (fun i _ => L.length - (intOf i).toNat)
  case atStart => exact ⟨0, by omega, rfl, Lib.hid (by rw [List.drop_zero]; exact Hb.out)⟩
  case round =>
    obtain ⟨k, hk, rfl, HK⟩ := hrel
    by_cases hlt : k < L.length
    · have hc := HS.out k L[k] (List.getElem?_eq_getElem hlt)
      have hd := List.drop_eq_getElem_cons hlt
      have hst := HK.out
      rw [hd, List.contains_cons] at hst
      obtain ⟨q, hq⟩ : ∃ q, L[k] = q := ⟨_, rfl⟩
      rw [hq] at hc hst
      have hE : (s.toList == (bs q).toList) = (l == q) := by rw [Lib.toList_data, Lib.toList_data, Hl.out]; rfl
      cases hlq : (l == q) with
      | true =>
        rw [hlq] at hE hst
        have Hst := Lib.hid (show true = b from by rw [← hst, Bool.true_or])
        clear hst hd hq hlq
        go_wp2_with fail
        go_ret
        exact ⟨⟨k, rfl, by rw [← Hst.out]; exact decide_eq_true (by omega)⟩, rfl⟩
      | false =>
        rw [hlq] at hE hst
        have HK2 : Hid ((L.drop (k + 1)).contains l = b) := Lib.hid (by rw [← hst, Bool.false_or])
        clear hst hd hq hlq
        go_wp2_with fail
        go_round
        case rel => exact ⟨k + 1, by omega, by go_num, HK2⟩
        case measure => simp [intOf]; omega
    · obtain rfl : k = L.length := by omega
      have hst := HK.out
      rw [List.drop_length] at hst
      have Hst := Lib.hid hst
      clear hst
      go_wp2
      go_ret
      exact ⟨⟨-1, rfl, by rw [← Hst.out]; rfl⟩, rfl⟩

theorem contains_any (L : List Bs) (hL : L.length ≤ 1000) (g c : Nat) (s : ByteArray) (l : Bs) (hl : s.data.toList = l) (b : Bool) (hb : L.contains l = b) (w : World) (hS : SS w g L) :
    Calls Tryz.prog 152 #[.slice (some ⟨g, 0, none⟩) L.length c, .string s] w fun e w' => e = .returned (.bool b) ∧ w = w' := by
  have HI := Lib.hid (index_any L hL g c s l hl b hb w hS)
  clear hl hb hS
  go_enter Tryz.func152, Tryz.ntmps152
  go_wp2_with fail
  refine HI.out.mono ?_
  rintro _ _ ⟨⟨i, rfl, hi⟩, rfl⟩
  cases b with
  | true =>
    have h0 := of_decide_eq_true hi
    clear hi
    go_wp2
    go_ret
    exact ⟨rfl, rfl⟩
  | false =>
    have h0 : ¬ 0 ≤ i := of_decide_eq_false hi
    go_wp2
    go_ret
    exact ⟨by first | rfl | (simp; omega), rfl⟩
theorem word_any (s : ByteArray) (l : Bs) (hl : s.data.toList = l) (b : Bool) (hb : wordB l = b) (w : World) : Calls Tryz.prog 110 #[.string s] w fun e w' => e = .returned (.bool b) ∧ Below w.heap.size w w' := by
  unfold wordB at hb
  cases hn : nameB l with
  | false =>
    rw [hn, Bool.false_and] at hb
    subst hb
    have HN := Lib.hid (fun W => name_any s l hl false hn W)
    clear hl hn
    go_enter Tryz.func110, Tryz.ntmps110
    go_wp2_with fail
    refine (HN.out _).mono ?_
    rintro _ w1 ⟨rfl, hw1⟩
    go_wp2
    go_ret
    exact ⟨rfl, by (repeat' (first | (with_reducible exact Below.refl _ _) | (with_reducible assumption) | (with_reducible refine balloc ?_ _) | (with_reducible refine Below.drew ?_) | (with_reducible refine bset ?_ ?_ _) | (with_reducible refine bstep ?_ (by with_reducible assumption)) | (with_reducible refine bturn ?_ (by with_reducible assumption) ?_) | go_size))⟩
  | true =>
    rw [hn, Bool.true_and] at hb
    have HN := Lib.hid (fun W => name_any s l hl true hn W)
    have HW := Lib.hid (fun W => words_any W)
    obtain ⟨k, hk⟩ : ∃ k, wordsL.contains l = k := ⟨_, rfl⟩
    rw [hk] at hb
    have HC := Lib.hid (fun g W hS => contains_any wordsL (by decide) g 9 s l hl k hk W hS)
    subst hb
    clear hl hn hk
    go_enter Tryz.func110, Tryz.ntmps110
    go_wp2_with fail
    refine (HN.out _).mono ?_
    rintro _ w1 ⟨rfl, hw1⟩
    go_wp2_with fail
    refine (HW.out _).mono ?_
    rintro _ w2 ⟨⟨g, rfl, hS⟩, hw2⟩
    go_wp2_with fail
    refine (HC.out g _ hS).mono ?_
    rintro _ _ ⟨rfl, rfl⟩
    go_wp2
    go_ret
    exact ⟨rfl, by (repeat' (first | (with_reducible exact Below.refl _ _) | (with_reducible assumption) | (with_reducible refine balloc ?_ _) | (with_reducible refine Below.drew ?_) | (with_reducible refine bset ?_ ?_ _) | (with_reducible refine bstep ?_ (by with_reducible assumption)) | (with_reducible refine bturn ?_ (by with_reducible assumption) ?_) | go_size))⟩
end Go.Proofs.YtkkeplmaphcblaaGreatDoor

namespace Go.Proofs.YtkkeplmaphcblaaGreatDoor
open Go.RowKit

def tkeq (a b : Int) (c : ByteArray) (d e f a' b' : Int) (c' : ByteArray) (d' e' f' : Int) : Bool := a == a' && (b == b' && (c.toList == c'.toList && (d == d' && (e == e' && f == f'))))
theorem tkeq_self (a b : Int) (c : ByteArray) (d e f : Int) : tkeq a b c d e f a b c d e f = true := by simp [tkeq]
set_option maxHeartbeats 1000000 in
theorem run_tok_eql (w : World) (a b : Int) (c : ByteArray) (d e f a' b' : Int) (c' : ByteArray) (d' e' f' : Int) :
    (binOp .eql 149 (.agg #[.int .i64 a, .int .i64 b, .string c, .int .i64 d, .int .i64 e, .int .i64 f]) (.agg #[.int .i64 a', .int .i64 b', .string c', .int .i64 d', .int .i64 e', .int .i64 f'])).run Tryz.prog w
      = .ok (.bool (tkeq a b c d e f a' b' c' d' e' f')) w := by
  go_simp
  unfold tkeq
  by_cases h1 : a = a' <;> by_cases h2 : b = b' <;> by_cases h3 : c.toList = c'.toList <;> by_cases h4 : d = d' <;> by_cases h5 : e = e' <;> by_cases h6 : f = f' <;> simp [h1, h2, h3, h4, h5, h6]
set_option maxHeartbeats 1000000 in
theorem run_tok_neq (w : World) (a b : Int) (c : ByteArray) (d e f a' b' : Int) (c' : ByteArray) (d' e' f' : Int) :
    (binOp .neq 149 (.agg #[.int .i64 a, .int .i64 b, .string c, .int .i64 d, .int .i64 e, .int .i64 f]) (.agg #[.int .i64 a', .int .i64 b', .string c', .int .i64 d', .int .i64 e', .int .i64 f'])).run Tryz.prog w
      = .ok (.bool (!tkeq a b c d e f a' b' c' d' e' f')) w := by
  go_simp
  unfold tkeq
  by_cases h1 : a = a' <;> by_cases h2 : b = b' <;> by_cases h3 : c.toList = c'.toList <;> by_cases h4 : d = d' <;> by_cases h5 : e = e' <;> by_cases h6 : f = f' <;> simp [h1, h2, h3, h4, h5, h6]
attribute [local go_sem high] run_tok_eql run_tok_neq tkeq_self

end Go.Proofs.YtkkeplmaphcblaaGreatDoor

namespace Go.Proofs.YtkkeplmaphcblaaGreatDoor
open Go.RowKit

/-- The texts of tokens with blanks between. -/
def joinB : List Bs → Bs
  | [] => []
  | [t] => t
  | t :: u :: r => t ++ 32 :: joinB (u :: r)
/-- What is written behind the first i texts. -/
def tailB (i : Nat) (L : List Bs) : Bs := (L.zipIdx i).flatMap fun p => if 0 < p.2 then 32 :: p.1 else p.1
theorem tail_join : ∀ (L : List Bs), tailB 0 L = joinB L
  | [] => rfl
  | t :: r => by
    have gen : ∀ (r : List Bs) (i : Nat), 0 < i → tailB i r = r.flatMap fun t => 32 :: t := by
      intro r
      induction r with
      | nil => intro i _; rfl
      | cons u r ih =>
        intro i hi
        have := ih (i + 1) (by omega)
        unfold tailB at this ⊢
        rw [List.zipIdx_cons, List.flatMap_cons, List.flatMap_cons, this, if_pos hi]
    have hj : ∀ (r : List Bs) (t : Bs), joinB (t :: r) = t ++ r.flatMap fun t => 32 :: t := by
      intro r
      induction r with
      | nil => intro t; simp [joinB]
      | cons u r ih => intro t; rw [joinB, ih u, List.flatMap_cons]; rfl
    have := gen r 1 (by omega)
    rw [hj r t]
    unfold tailB at this ⊢
    rw [List.zipIdx_cons, List.flatMap_cons, this]
    rfl
theorem tail_cons (i : Nat) (t : Bs) (r : List Bs) : tailB i (t :: r) = (if 0 < i then 32 :: t else t) ++ tailB (i + 1) r := by
  unfold tailB
  rw [List.zipIdx_cons, List.flatMap_cons]
theorem isb_below {B b : Nat} {o : Bs} {w w' : World} (h : IsB B b o w) (hb : Below w.heap.size w w') : IsB B b o w' := by
  have key : ∀ p, Lib.BuilderAt 95 5 B b p (Lib.byteCells o) w → Lib.BuilderAt 95 5 B b p (Lib.byteCells o) w' := by
    rintro p ⟨h1, v, h2, h3, h4⟩
    exact ⟨h1, v, (hb.block b (Array.getElem?_eq_some_iff.1 h2).1).trans h2, own_below h3 hb, h4⟩
  rcases h with h | h
  · exact .inl (key _ h)
  · exact .inr (key _ h)

/-- Join of tokens that stand. -/
theorem tm_get {w : World} {A : Option Addr} {L : List Tk} (h : TM w A L) {k : Nat} {t : Tk} (ht : L[k]? = some t) : ∃ g o, A = some ⟨g, o, none⟩ ∧ w.cell? ⟨g, o + k * 6, none⟩ = some (.int .i64 t.k) ∧ w.cell? ⟨g, o + k * 6 + 1, none⟩ = some (.int .i64 (t.a : Int)) ∧ w.cell? ⟨g, o + k * 6 + 2, none⟩ = some (.string (bs t.t)) ∧ w.cell? ⟨g, o + k * 6 + 3, none⟩ = some (.int .i64 t.n) ∧ w.cell? ⟨g, o + k * 6 + 4, none⟩ = some (.int .i64 t.s) ∧ w.cell? ⟨g, o + k * 6 + 5, none⟩ = some (.int .i64 t.m) := by
  obtain ⟨g, o, e, hc⟩ := h k t ht
  exact ⟨g, o, e, hc 0 _ rfl, hc 1 _ rfl, hc 2 _ rfl, hc 3 _ rfl, hc 4 _ rfl, hc 5 _ rfl⟩

  -- JOIN
end Go.Proofs.YtkkeplmaphcblaaGreatDoor

namespace Go.Proofs.YtkkeplmaphcblaaGreatDoor
open Go.RowKit

/-- Memory is as it was, but for block b and new blocks. -/
structure Gr (b : Nat) (w w' : World) : Prop where
  os : w'.os = w.os
  tape : w'.tape = w.tape
  output : w'.output = w.output
  size : w.heap.size ≤ w'.heap.size
  block : ∀ k, k < w.heap.size → k ≠ b → w'.heap[k]? = w.heap[k]?
section
variable {b g : Nat} {a w w1 w2 w' : World}
theorem Gr.refl (b : Nat) (w : World) : Gr b w w := ⟨rfl, rfl, rfl, Nat.le_refl _, fun _ _ _ => rfl⟩
theorem Gr.of (h : Below w.heap.size w w') : Gr b w w' := ⟨h.os, h.tape, h.output, h.size, fun k hk _ => h.block k hk⟩
theorem Gr.trans (h : Gr b w w1) (k : Gr b w1 w2) : Gr b w w2 :=
  ⟨k.os.trans h.os, k.tape.trans h.tape, k.output.trans h.output, Nat.le_trans h.size k.size, fun i hi hn => (k.block i (Nat.lt_of_lt_of_le hi h.size) hn).trans (h.block i hi hn)⟩
theorem Gr.bstep (h : Gr b w w1) (k : Below w1.heap.size w1 w2) : Gr b w w2 := h.trans (.of k)
theorem Gr.alloc (h : Gr b w w1) (o : Obj) : Gr b w (w1.alloc o) := h.bstep (balloc (Below.refl _ _) o)
theorem Gr.drew (h : Gr b w w1) : Gr b w w1.drew := ⟨h.os, h.tape, h.output, h.size, h.block⟩
theorem Gr.drewN (h : Gr b w w1) (n : Nat) : Gr b w (w1.drewN n) := ⟨h.os, h.tape, h.output, h.size, h.block⟩
theorem Gr.set (h : Gr b w w1) (i : Nat) (u : Value) : Gr b w (w1.setCell ⟨b, i, none⟩ u) :=
  ⟨h.os, h.tape, h.output, by simpa [World.setCell] using h.size, fun k hk hn => (Below.heap_setCell _ _ _ _ hn).trans (h.block k hk hn)⟩
theorem Gr.far (h : Gr b w w1) {p : Addr} (hp : w.heap.size ≤ p.block) (u : Value) : Gr b w (w1.setCell p u) :=
  ⟨h.os, h.tape, h.output, by simpa [World.setCell] using h.size, fun k hk hn => (Below.heap_setCell _ _ _ _ (by omega)).trans (h.block k hk hn)⟩
theorem Gr.turn (h : Gr b w w1) (ht : Turned w1 w2 b) : Gr b w w2 :=
  ⟨ht.os.trans h.os, ht.tape.trans h.tape, ht.output.trans h.output, by rw [ht.size]; exact h.size, fun k hk hn => (ht.block k hn).trans (h.block k hk hn)⟩
theorem Gr.turnFar (h : Gr b w w1) (ht : Turned w1 w2 g) (hg : w.heap.size ≤ g) : Gr b w w2 :=
  ⟨ht.os.trans h.os, ht.tape.trans h.tape, ht.output.trans h.output, by rw [ht.size]; exact h.size, fun k hk hn => (ht.block k (by omega)).trans (h.block k hk hn)⟩
theorem Gr.below (k : Gr b w w') (h : Below a.heap.size a w) (hb : a.heap.size ≤ b) : Below a.heap.size a w' :=
  ⟨k.os.trans h.os, k.tape.trans h.tape, k.output.trans h.output, Nat.le_trans h.size k.size, fun i hi => (k.block i (Nat.lt_of_lt_of_le hi h.size) (by omega)).trans (h.block i hi)⟩
theorem gcell (h : Gr b w w') : (∀ g o, g < w.heap.size → g ≠ b → w'.cell? ⟨g, o, none⟩ = w.cell? ⟨g, o, none⟩) ∧ (∀ g o, g < w.heap.size → g ≠ b → w'.frozen? ⟨g, o, none⟩ = w.frozen? ⟨g, o, none⟩) :=
  ⟨fun g o h1 h2 => World.cell?_of_block (h.block g h1 h2), fun g o h1 h2 => World.frozen?_of_block (h.block g h1 h2)⟩
theorem Blk.gr {t : TypeId} {cs : Array Value} (h : Blk w g t cs) (k : Gr b w w') (hn : g ≠ b) : Blk w' g t cs := (k.block g h.lt hn).trans h
theorem TM.gr {A : Option Addr} {L : List Tk} (h : TM w A L) (k : Gr b w w') (hn : ∀ (i : Nat) t g o, L[i]? = some t → A = some ⟨g, o, none⟩ → g ≠ b) : TM w' A L := fun i t ht => by
  obtain ⟨g, o, e, hc⟩ := h i t ht
  exact ⟨g, o, e, fun j v hj => ((gcell k).1 g _ (block_lt_of_cell (hc j v hj)) (hn i t g o ht e)).trans (hc j v hj)⟩
end

/-- A parser in memory. -/
structure PB (w : World) (b : Nat) (A : Option Addr) (c : Nat) (p : PS) : Prop where
  blk : Blk w b 69 #[.slice A p.L.length c, .int .i64 (p.nx : Int), .int .i64 (p.en : Int), .int .i64 p.a, .int .i64 p.e, .int .i64 p.md]
  tm : TM w A p.L
  nb : ∀ (i : Nat) t g o, p.L[i]? = some t → A = some ⟨g, o, none⟩ → g ≠ b
  le : p.nx ≤ p.L.length
  big : p.L.length ≤ 100000
section
variable {w w' : World} {b : Nat} {A : Option Addr} {c : Nat} {p : PS}
theorem PB.step (h : PB w b A c p) (hb : Below w.heap.size w w') : PB w' b A c p := ⟨h.blk.step hb, h.tm.step hb, h.nb, h.le, h.big⟩
theorem PB.adv (h : PB w b A c p) (hlt : p.nx < p.L.length) : PB (w.setCell ⟨b, 1, none⟩ (.int .i64 ((p.nx : Int) + 1))) b A c p.adv := by
  refine ⟨?_, h.tm.gr (b := b) ((Gr.refl _ _).set _ _) h.nb, h.nb, hlt, h.big⟩
  have := h.blk.set_ 1 (.int .i64 ((p.nx : Int) + 1))
  simpa [PS.adv] using this
theorem PB.bad (h : PB w b A c p) (he : p.e = 0) (k : Int) : PB ((w.setCell ⟨b, 3, none⟩ (.int .i64 p.at')).setCell ⟨b, 4, none⟩ (.int .i64 k)) b A c (p.fail k) := by
  have e : p.fail k = { p with a := p.at', e := k } := by unfold PS.fail; rw [if_pos he]
  rw [e]
  refine ⟨?_, (h.tm.gr (b := b) ((Gr.refl _ _).set _ _) h.nb).gr (b := b) ((Gr.refl _ _).set _ _) h.nb, h.nb, h.le, h.big⟩
  have := (h.blk.set_ 3 (.int .i64 p.at')).set_ 4 (.int .i64 k)
  simpa using this
theorem PB.nodrew (h : PB w b A c p) : PB w.drew b A c p := ⟨h.blk.drew, h.tm, h.nb, h.le, h.big⟩
end

set_option maxHeartbeats 4000000 in
set_option maxRecDepth 100000 in
theorem is_err (b : Nat) (A : Option Addr) (c : Nat) (p : PS) (s : ByteArray) (w : World) (h : PB w b A c p) (he : ¬ p.e = 0) :
    Calls Tryz.prog 102 #[.pointer (some ⟨b, 0, none⟩), .string s] w fun e w' => e = .returned (.bool false) ∧ Below w.heap.size w w' := by
  have heb : (p.e != 0) = true := by simpa using he
  have hbp := (h).blk; have hlp := hbp.lt; have hllp := lts hlp; have qp0 := hbp.cell 0; have qp1 := hbp.cell 1; have qp2 := hbp.cell 2; have qp3 := hbp.cell 3; have qp4 := hbp.cell 4; have qp5 := hbp.cell 5; simp at qp0 qp1 qp2 qp3 qp4 qp5; have zp0 := hbp.frozen 0; have zp1 := hbp.frozen 1; have zp2 := hbp.frozen 2; have zp3 := hbp.frozen 3; have zp4 := hbp.frozen 4; have zp5 := hbp.frozen 5; have Hhbp := Lib.hid hbp; clear hbp
  go_enter Tryz.func102, Tryz.ntmps102
  go_wp2_with fail
  go_quiet (fail)
  go_wp2_with fail
  go_returns
  exact ⟨rfl, by (repeat' (first | (with_reducible refine bdrewN ?_ _) | (with_reducible exact Below.refl _ _) | (with_reducible assumption) | (with_reducible refine balloc ?_ _) | (with_reducible refine Below.drew ?_) | (with_reducible refine bset ?_ ?_ _) | (with_reducible refine bstep ?_ (by with_reducible assumption)) | (with_reducible refine bturn ?_ (by with_reducible assumption) ?_) | go_size))⟩
set_option maxHeartbeats 4000000 in
set_option maxRecDepth 100000 in
theorem is_end (b : Nat) (A : Option Addr) (c : Nat) (p : PS) (s : ByteArray) (w : World) (h : PB w b A c p) (he : p.e = 0) (hn : p.L.length ≤ p.nx) :
    Calls Tryz.prog 102 #[.pointer (some ⟨b, 0, none⟩), .string s] w fun e w' => e = .returned (.bool false) ∧ Below w.heap.size w w' := by
  have hni : (p.L.length : Int) ≤ (p.nx : Int) := by omega
  have hbp := (h).blk; have hlp := hbp.lt; have hllp := lts hlp; have qp0 := hbp.cell 0; have qp1 := hbp.cell 1; have qp2 := hbp.cell 2; have qp3 := hbp.cell 3; have qp4 := hbp.cell 4; have qp5 := hbp.cell 5; simp at qp0 qp1 qp2 qp3 qp4 qp5; have zp0 := hbp.frozen 0; have zp1 := hbp.frozen 1; have zp2 := hbp.frozen 2; have zp3 := hbp.frozen 3; have zp4 := hbp.frozen 4; have zp5 := hbp.frozen 5; have Hhbp := Lib.hid hbp; clear hbp
  rw [he] at qp4
  go_enter Tryz.func102, Tryz.ntmps102
  go_wp2_with fail
  go_quiet (fail)
  go_wp2_with fail
  go_returns
  exact ⟨rfl, by (repeat' (first | (with_reducible refine bdrewN ?_ _) | (with_reducible exact Below.refl _ _) | (with_reducible assumption) | (with_reducible refine balloc ?_ _) | (with_reducible refine Below.drew ?_) | (with_reducible refine bset ?_ ?_ _) | (with_reducible refine bstep ?_ (by with_reducible assumption)) | (with_reducible refine bturn ?_ (by with_reducible assumption) ?_) | go_size))⟩
set_option maxHeartbeats 4000000 in
set_option maxRecDepth 100000 in
theorem is_tok (b : Nat) (A : Option Addr) (c : Nat) (p : PS) (s : ByteArray) (w : World) (h : PB w b A c p) (he : p.e = 0) (t : Tk) (ht : p.L[p.nx]? = some t) (R : Bool) (hR : ((t.k == 4 || t.k == 5) && (bs t.t).toList == s.toList) = R) :
    Calls Tryz.prog 102 #[.pointer (some ⟨b, 0, none⟩), .string s] w fun e w' => e = .returned (.bool R) ∧ Below w.heap.size w w' := by
  have hn : p.nx < p.L.length := (List.getElem?_eq_some_iff.1 ht).1
  have hni : ¬ (p.L.length : Int) ≤ (p.nx : Int) := by omega
  have hni2 : (p.nx : Int) < (p.L.length : Int) := by omega
  have H := Lib.hid h
  have HT := Lib.hid ht
  have HR := Lib.hid hR
  have HE := Lib.hid he
  have hbp := (h).blk; have hlp := hbp.lt; have hllp := lts hlp; have qp0 := hbp.cell 0; have qp1 := hbp.cell 1; have qp2 := hbp.cell 2; have qp3 := hbp.cell 3; have qp4 := hbp.cell 4; have qp5 := hbp.cell 5; simp at qp0 qp1 qp2 qp3 qp4 qp5; have zp0 := hbp.frozen 0; have zp1 := hbp.frozen 1; have zp2 := hbp.frozen 2; have zp3 := hbp.frozen 3; have zp4 := hbp.frozen 4; have zp5 := hbp.frozen 5; have Hhbp := Lib.hid hbp; clear hbp
  rw [he] at qp4
  clear h ht hR he hn
  go_enter Tryz.func102, Tryz.ntmps102
  go_wp2_with fail
  go_quiet (fail)
  have hb1 : Below (w).heap.size (w) ((w).drewN nq) := bdrewN (Below.refl _ _) nq; generalize (w).drewN nq = w1 at *; have hz1 := hb1.size
  clear qp0 zp0 qp1 zp1 qp2 zp2 qp3 zp3 qp4 zp4 qp5 zp5 hlp hllp Hhbp
  have h1 := H.out.step hb1
  obtain ⟨g, f, rfl, c0, c1, c2, c3, c4, c5⟩ := tm_get h1.tm HT.out
  have hlg : g < w1.heap.size := block_lt_of_cell c0
  have hllg := lts hlg
  obtain ⟨q, hq⟩ : ∃ q, bs t.t = q := ⟨_, rfl⟩
  rw [hq] at c2
  have hbr := (h1).blk; have hlr := hbr.lt; have hllr := lts hlr; have qr0 := hbr.cell 0; have qr1 := hbr.cell 1; have qr2 := hbr.cell 2; have qr3 := hbr.cell 3; have qr4 := hbr.cell 4; have qr5 := hbr.cell 5; simp at qr0 qr1 qr2 qr3 qr4 qr5; have zr0 := hbr.frozen 0; have zr1 := hbr.frozen 1; have zr2 := hbr.frozen 2; have zr3 := hbr.frozen 3; have zr4 := hbr.frozen 4; have zr5 := hbr.frozen 5; have Hhbr := Lib.hid hbr; clear hbr
  rw [HE.out] at qr4
  clear h1
  go_wp2_with fail
  go_region
  all_goals
    clear hllr hllg hz1
    go_wp2_with fail
    all_goals
      go_returns
      refine ⟨?_, by (repeat' (first | (with_reducible refine bdrewN ?_ _) | (with_reducible exact Below.refl _ _) | (with_reducible assumption) | (with_reducible refine balloc ?_ _) | (with_reducible refine Below.drew ?_) | (with_reducible refine bset ?_ ?_ _) | (with_reducible refine bstep ?_ (by with_reducible assumption)) | (with_reducible refine bturn ?_ (by with_reducible assumption) ?_) | go_size))⟩
      rw [← HR.out, hq]
      simp [*]
end Go.Proofs.YtkkeplmaphcblaaGreatDoor

namespace Go.Proofs.YtkkeplmaphcblaaGreatDoor
open Go.RowKit

theorem is_any (b : Nat) (A : Option Addr) (c : Nat) (p : PS) (l : Bs) (w : World) (h : PB w b A c p) :
    Calls Tryz.prog 102 #[.pointer (some ⟨b, 0, none⟩), .string (bs l)] w fun e w' => e = .returned (.bool (p.isS l)) ∧ Below w.heap.size w w' := by
  by_cases he : p.e = 0
  · cases ht : p.L[p.nx]? with
    | none =>
      rw [isS_none ht]
      exact is_end b A c p (bs l) w h he (List.getElem?_eq_none_iff.1 ht)
    | some t =>
      rw [isS_some he ht]
      refine is_tok b A c p (bs l) w h he t ht _ ?_
      rw [Lib.toList_data, Lib.toList_data]
      rfl
  · rw [isS_err he]
    exact is_err b A c p (bs l) w h he
theorem isS_ltw {p : PS} {s : Bs} (h : p.isS s = true) : p.nx < p.L.length ∧ p.e = 0 := by
  unfold PS.isS at h
  rw [Bool.and_eq_true] at h
  refine ⟨?_, by simpa using h.1⟩
  cases ht : p.L[p.nx]? with
  | none => rw [ht] at h; cases h.2
  | some t => exact (List.getElem?_eq_some_iff.1 ht).1

set_option maxHeartbeats 4000000 in
set_option maxRecDepth 100000 in
theorem take_any (b : Nat) (A : Option Addr) (c : Nat) (p : PS) (l : Bs) (w : World) (h : PB w b A c p) :
    Calls Tryz.prog 59 #[.pointer (some ⟨b, 0, none⟩), .string (bs l)] w fun e w' => e = .returned (.bool (p.isS l)) ∧ PB w' b A c (p.take l) ∧ Gr b w w' := by
  have H := Lib.hid h
  have H1 := Lib.hid (is_any b A c p l w h)
  obtain ⟨s, hs⟩ : ∃ s, bs l = s := ⟨_, rfl⟩
  rw [hs] at H1 ⊢
  cases hi : p.isS l with
  | false =>
    have ht : p.take l = p := by unfold PS.take; rw [hi]; rfl
    rw [ht]
    rw [hi] at H1
    clear h hi ht
    go_enter Tryz.func59, Tryz.ntmps59
    go_wp2_with fail
    refine H1.out.mono ?_
    rintro e w1 ⟨rfl, hb1⟩
    go_wp2_with fail
    go_returns
    exact ⟨rfl, H.out.step hb1, .of hb1⟩
  | true =>
    have ht : p.take l = p.adv := by unfold PS.take; rw [hi]; rfl
    have hlt := (isS_ltw hi).1
    have hnx : IntKind.i64.wrap ((p.nx : Int) + 1) = (p.nx : Int) + 1 := IntWalk.i64_in _ (by have := h.big; omega)
    rw [ht]
    rw [hi] at H1
    have HL := Lib.hid hlt
    clear h hi ht hlt
    go_enter Tryz.func59, Tryz.ntmps59
    go_wp2_with fail
    refine H1.out.mono ?_
    rintro e w1 ⟨rfl, hb1⟩
    have h1 := H.out.step hb1
    have H2 := Lib.hid h1
    have hbr := (h1).blk; have hlr := hbr.lt; have hllr := lts hlr; have qr0 := hbr.cell 0; have qr1 := hbr.cell 1; have qr2 := hbr.cell 2; have qr3 := hbr.cell 3; have qr4 := hbr.cell 4; have qr5 := hbr.cell 5; simp at qr0 qr1 qr2 qr3 qr4 qr5; have zr0 := hbr.frozen 0; have zr1 := hbr.frozen 1; have zr2 := hbr.frozen 2; have zr3 := hbr.frozen 3; have zr4 := hbr.frozen 4; have zr5 := hbr.frozen 5; have Hhbr := Lib.hid hbr; clear hbr
    clear h1
    go_wp2_with fail
    go_returns
    exact ⟨rfl, H2.out.adv HL.out, by (repeat' (first | (with_reducible exact Gr.refl _ _) | (with_reducible assumption) | (with_reducible refine Gr.alloc ?_ _) | (with_reducible refine Gr.drew ?_) | (with_reducible refine Gr.drewN ?_ _) | (with_reducible refine Gr.set ?_ _ _) | (with_reducible refine Gr.far ?_ ?_ _) | (with_reducible refine Gr.trans ?_ (by with_reducible assumption)) | (with_reducible refine Gr.bstep ?_ (by with_reducible assumption)) | (with_reducible refine Gr.turn ?_ (by with_reducible assumption)) | (with_reducible refine Gr.turnFar ?_ (by with_reducible assumption) ?_) | go_size | ((try simp only [World.size_alloc, World.size_setCell, World.size_drew]); omega)))⟩
set_option maxHeartbeats 4000000 in
set_option maxRecDepth 100000 in
theorem where_any (b : Nat) (A : Option Addr) (c : Nat) (p : PS) (w : World) (h : PB w b A c p) :
    Calls Tryz.prog 78 #[.pointer (some ⟨b, 0, none⟩)] w fun e w' => e = .returned (.int .i64 p.at') ∧ Below w.heap.size w w' := by
  have H := Lib.hid h
  cases ht : p.L[p.nx]? with
  | none =>
    have hn : p.L.length ≤ p.nx := List.getElem?_eq_none_iff.1 ht
    have hni : ¬ (p.nx : Int) < (p.L.length : Int) := by omega
    have ha : p.at' = (p.en : Int) := by unfold PS.at'; rw [ht]
    rw [ha]
    have hbp := (h).blk; have hlp := hbp.lt; have hllp := lts hlp; have qp0 := hbp.cell 0; have qp1 := hbp.cell 1; have qp2 := hbp.cell 2; have qp3 := hbp.cell 3; have qp4 := hbp.cell 4; have qp5 := hbp.cell 5; simp at qp0 qp1 qp2 qp3 qp4 qp5; have zp0 := hbp.frozen 0; have zp1 := hbp.frozen 1; have zp2 := hbp.frozen 2; have zp3 := hbp.frozen 3; have zp4 := hbp.frozen 4; have zp5 := hbp.frozen 5; have Hhbp := Lib.hid hbp; clear hbp
    clear h ht hn ha
    go_enter Tryz.func78, Tryz.ntmps78
    go_wp2_with fail
    go_quiet (fail)
    go_wp2_with fail
    go_returns
    exact ⟨rfl, by (repeat' (first | (with_reducible refine bdrewN ?_ _) | (with_reducible exact Below.refl _ _) | (with_reducible assumption) | (with_reducible refine balloc ?_ _) | (with_reducible refine Below.drew ?_) | (with_reducible refine bset ?_ ?_ _) | (with_reducible refine bstep ?_ (by with_reducible assumption)) | (with_reducible refine bturn ?_ (by with_reducible assumption) ?_) | go_size))⟩
  | some t =>
    have hn : p.nx < p.L.length := (List.getElem?_eq_some_iff.1 ht).1
    have hni : (p.nx : Int) < (p.L.length : Int) := by omega
    have ha : p.at' = (t.a : Int) := by unfold PS.at'; rw [ht]
    rw [ha]
    have HT := Lib.hid ht
    have hbp := (h).blk; have hlp := hbp.lt; have hllp := lts hlp; have qp0 := hbp.cell 0; have qp1 := hbp.cell 1; have qp2 := hbp.cell 2; have qp3 := hbp.cell 3; have qp4 := hbp.cell 4; have qp5 := hbp.cell 5; simp at qp0 qp1 qp2 qp3 qp4 qp5; have zp0 := hbp.frozen 0; have zp1 := hbp.frozen 1; have zp2 := hbp.frozen 2; have zp3 := hbp.frozen 3; have zp4 := hbp.frozen 4; have zp5 := hbp.frozen 5; have Hhbp := Lib.hid hbp; clear hbp
    clear h ht hn ha
    go_enter Tryz.func78, Tryz.ntmps78
    go_wp2_with fail
    go_quiet (fail)
    have hb1 : Below (w).heap.size (w) ((w).drewN nq) := bdrewN (Below.refl _ _) nq; generalize (w).drewN nq = w1 at *; have hz1 := hb1.size
    clear qp0 zp0 qp1 zp1 qp2 zp2 qp3 zp3 qp4 zp4 qp5 zp5 hlp hllp Hhbp
    have h1 := H.out.step hb1
    obtain ⟨g, f, rfl, c0, c1, c2, c3, c4, c5⟩ := tm_get h1.tm HT.out
    have hbr := (h1).blk; have hlr := hbr.lt; have hllr := lts hlr; have qr0 := hbr.cell 0; have qr1 := hbr.cell 1; have qr2 := hbr.cell 2; have qr3 := hbr.cell 3; have qr4 := hbr.cell 4; have qr5 := hbr.cell 5; simp at qr0 qr1 qr2 qr3 qr4 qr5; have zr0 := hbr.frozen 0; have zr1 := hbr.frozen 1; have zr2 := hbr.frozen 2; have zr3 := hbr.frozen 3; have zr4 := hbr.frozen 4; have zr5 := hbr.frozen 5; have Hhbr := Lib.hid hbr; clear hbr
    clear h1
    go_wp2_with fail
    go_quiet (fail)
    go_wp2_with fail
    go_returns
    exact ⟨rfl, bdrewN hb1 _⟩
set_option maxHeartbeats 4000000 in
set_option maxRecDepth 100000 in
theorem fail_any (b : Nat) (A : Option Addr) (c : Nat) (p : PS) (k : Int) (w : World) (h : PB w b A c p) :
    Calls Tryz.prog 44 #[.pointer (some ⟨b, 0, none⟩), .int .i64 k] w fun e w' => e = .returned (.tuple #[]) ∧ PB w' b A c (p.fail k) ∧ Gr b w w' := by
  have H := Lib.hid h
  by_cases he : p.e = 0
  · have H1 := Lib.hid (where_any b A c p w h)
    have HE := Lib.hid he
    have hbp := (h).blk; have hlp := hbp.lt; have hllp := lts hlp; have qp0 := hbp.cell 0; have qp1 := hbp.cell 1; have qp2 := hbp.cell 2; have qp3 := hbp.cell 3; have qp4 := hbp.cell 4; have qp5 := hbp.cell 5; simp at qp0 qp1 qp2 qp3 qp4 qp5; have zp0 := hbp.frozen 0; have zp1 := hbp.frozen 1; have zp2 := hbp.frozen 2; have zp3 := hbp.frozen 3; have zp4 := hbp.frozen 4; have zp5 := hbp.frozen 5; have Hhbp := Lib.hid hbp; clear hbp
    rw [he] at qp4
    clear h he
    go_enter Tryz.func44, Tryz.ntmps44
    go_wp2_with fail
    refine H1.out.mono ?_
    rintro e w1 ⟨rfl, hb1⟩
    have h1 := H.out.step hb1
    have H2 := Lib.hid h1
    clear qp0 zp0 qp1 zp1 qp2 zp2 qp3 zp3 qp4 zp4 qp5 zp5 hlp hllp Hhbp
    have hbr := (h1).blk; have hlr := hbr.lt; have hllr := lts hlr; have qr0 := hbr.cell 0; have qr1 := hbr.cell 1; have qr2 := hbr.cell 2; have qr3 := hbr.cell 3; have qr4 := hbr.cell 4; have qr5 := hbr.cell 5; simp at qr0 qr1 qr2 qr3 qr4 qr5; have zr0 := hbr.frozen 0; have zr1 := hbr.frozen 1; have zr2 := hbr.frozen 2; have zr3 := hbr.frozen 3; have zr4 := hbr.frozen 4; have zr5 := hbr.frozen 5; have Hhbr := Lib.hid hbr; clear hbr
    clear h1
    go_wp2_with fail
    go_returns
    exact ⟨rfl, H2.out.bad HE.out k, by (repeat' (first | (with_reducible exact Gr.refl _ _) | (with_reducible assumption) | (with_reducible refine Gr.alloc ?_ _) | (with_reducible refine Gr.drew ?_) | (with_reducible refine Gr.drewN ?_ _) | (with_reducible refine Gr.set ?_ _ _) | (with_reducible refine Gr.far ?_ ?_ _) | (with_reducible refine Gr.trans ?_ (by with_reducible assumption)) | (with_reducible refine Gr.bstep ?_ (by with_reducible assumption)) | (with_reducible refine Gr.turn ?_ (by with_reducible assumption)) | (with_reducible refine Gr.turnFar ?_ (by with_reducible assumption) ?_) | go_size | ((try simp only [World.size_alloc, World.size_setCell, World.size_drew]); omega)))⟩
  · have hf : p.fail k = p := by unfold PS.fail; rw [if_neg he]
    rw [hf]
    have hbp := (h).blk; have hlp := hbp.lt; have hllp := lts hlp; have qp0 := hbp.cell 0; have qp1 := hbp.cell 1; have qp2 := hbp.cell 2; have qp3 := hbp.cell 3; have qp4 := hbp.cell 4; have qp5 := hbp.cell 5; simp at qp0 qp1 qp2 qp3 qp4 qp5; have zp0 := hbp.frozen 0; have zp1 := hbp.frozen 1; have zp2 := hbp.frozen 2; have zp3 := hbp.frozen 3; have zp4 := hbp.frozen 4; have zp5 := hbp.frozen 5; have Hhbp := Lib.hid hbp; clear hbp
    clear h hf
    go_enter Tryz.func44, Tryz.ntmps44
    go_wp2_with fail
    go_returns
    exact ⟨rfl, H.out, by (repeat' (first | (with_reducible exact Gr.refl _ _) | (with_reducible assumption) | (with_reducible refine Gr.alloc ?_ _) | (with_reducible refine Gr.drew ?_) | (with_reducible refine Gr.drewN ?_ _) | (with_reducible refine Gr.set ?_ _ _) | (with_reducible refine Gr.far ?_ ?_ _) | (with_reducible refine Gr.trans ?_ (by with_reducible assumption)) | (with_reducible refine Gr.bstep ?_ (by with_reducible assumption)) | (with_reducible refine Gr.turn ?_ (by with_reducible assumption)) | (with_reducible refine Gr.turnFar ?_ (by with_reducible assumption) ?_) | go_size | ((try simp only [World.size_alloc, World.size_setCell, World.size_drew]); omega)))⟩
set_option maxHeartbeats 4000000 in
set_option maxRecDepth 100000 in
theorem need_any (b : Nat) (A : Option Addr) (c : Nat) (p : PS) (l : Bs) (w : World) (h : PB w b A c p) :
    Calls Tryz.prog 60 #[.pointer (some ⟨b, 0, none⟩), .string (bs l)] w fun e w' => e = .returned (.tuple #[]) ∧ PB w' b A c (p.need l) ∧ Gr b w w' := by
  have H1 := Lib.hid (take_any b A c p l w h)
  have HF := Lib.hid (fail_any b A c p 5)
  obtain ⟨s, hs⟩ : ∃ s, bs l = s := ⟨_, rfl⟩
  rw [hs] at H1 ⊢
  cases hi : p.isS l with
  | false =>
    have ht : p.take l = p := by unfold PS.take; rw [hi]; rfl
    have hn : p.need l = p.fail 5 := by unfold PS.need; rw [hi]; rfl
    rw [hn]
    rw [hi, ht] at H1
    clear h hi ht hn hs
    go_enter Tryz.func60, Tryz.ntmps60
    go_wp2_with fail
    refine H1.out.mono ?_
    rintro e w1 ⟨rfl, h1, g1⟩
    have H2 := Lib.hid (HF.out w1 h1)
    go_wp2_with fail
    refine H2.out.mono ?_
    rintro e w2 ⟨rfl, h2, g2⟩
    go_wp2_with fail
    go_returns
    exact ⟨rfl, h2, g1.trans g2⟩
  | true =>
    have ht : p.take l = p.adv := by unfold PS.take; rw [hi]; rfl
    have hn : p.need l = p.adv := by unfold PS.need; rw [hi]; rfl
    rw [hn]
    rw [hi, ht] at H1
    clear h hi ht hn hs
    go_enter Tryz.func60, Tryz.ntmps60
    go_wp2_with fail
    refine H1.out.mono ?_
    rintro e w1 ⟨rfl, h1, g1⟩
    go_wp2_with fail
    go_returns
    exact ⟨rfl, h1, g1⟩
set_option maxHeartbeats 4000000 in
set_option maxRecDepth 100000 in
theorem error_any (b : Nat) (A : Option Addr) (c : Nat) (p : PS) (w : World) (h : PB w b A c p) :
    Calls Tryz.prog 45 #[.pointer (some ⟨b, 0, none⟩)] w fun e w' => e = .returned (.tuple #[.int .i64 p.a, .int .i64 p.e]) ∧ Below w.heap.size w w' := by
  have hbp := (h).blk; have hlp := hbp.lt; have hllp := lts hlp; have qp0 := hbp.cell 0; have qp1 := hbp.cell 1; have qp2 := hbp.cell 2; have qp3 := hbp.cell 3; have qp4 := hbp.cell 4; have qp5 := hbp.cell 5; simp at qp0 qp1 qp2 qp3 qp4 qp5; have zp0 := hbp.frozen 0; have zp1 := hbp.frozen 1; have zp2 := hbp.frozen 2; have zp3 := hbp.frozen 3; have zp4 := hbp.frozen 4; have zp5 := hbp.frozen 5; have Hhbp := Lib.hid hbp; clear hbp
  clear h
  go_enter Tryz.func45, Tryz.ntmps45
  go_wp2_with fail
  go_quiet (fail)
  go_wp2_with fail
  go_returns
  exact ⟨rfl, by (repeat' (first | (with_reducible refine bdrewN ?_ _) | (with_reducible exact Below.refl _ _) | (with_reducible assumption) | (with_reducible refine balloc ?_ _) | (with_reducible refine Below.drew ?_) | (with_reducible refine bset ?_ ?_ _) | (with_reducible refine bstep ?_ (by with_reducible assumption)) | (with_reducible refine bturn ?_ (by with_reducible assumption) ?_) | go_size))⟩
set_option maxHeartbeats 4000000 in
set_option maxRecDepth 100000 in
theorem ended_any (b : Nat) (A : Option Addr) (c : Nat) (p : PS) (w : World) (h : PB w b A c p) :
    Calls Tryz.prog 43 #[.pointer (some ⟨b, 0, none⟩)] w fun e w' => e = .returned (.bool p.ended) ∧ Below w.heap.size w w' := by
  by_cases he : p.e = 0
  · have hE : p.ended = decide (p.nx = p.L.length) := by unfold PS.ended; rw [he]; rfl
    rw [hE]
    have hbp := (h).blk; have hlp := hbp.lt; have hllp := lts hlp; have qp0 := hbp.cell 0; have qp1 := hbp.cell 1; have qp2 := hbp.cell 2; have qp3 := hbp.cell 3; have qp4 := hbp.cell 4; have qp5 := hbp.cell 5; simp at qp0 qp1 qp2 qp3 qp4 qp5; have zp0 := hbp.frozen 0; have zp1 := hbp.frozen 1; have zp2 := hbp.frozen 2; have zp3 := hbp.frozen 3; have zp4 := hbp.frozen 4; have zp5 := hbp.frozen 5; have Hhbp := Lib.hid hbp; clear hbp
    rw [he] at qp4
    clear h he hE
    go_enter Tryz.func43, Tryz.ntmps43
    go_wp2_with fail
    go_quiet (fail)
    go_wp2_with fail
    go_returns
    refine ⟨?_, by (repeat' (first | (with_reducible refine bdrewN ?_ _) | (with_reducible exact Below.refl _ _) | (with_reducible assumption) | (with_reducible refine balloc ?_ _) | (with_reducible refine Below.drew ?_) | (with_reducible refine bset ?_ ?_ _) | (with_reducible refine bstep ?_ (by with_reducible assumption)) | (with_reducible refine bturn ?_ (by with_reducible assumption) ?_) | go_size))⟩
    have hd : ((p.nx : Int) == (p.L.length : Int)) = decide (p.nx = p.L.length) := by
      by_cases hq : p.nx = p.L.length
      · simp [hq]
      · simp [hq]
        omega
    show Ending.returned (Value.bool ((p.nx : Int) == (p.L.length : Int))) = _
    rw [hd]
  · have hE : p.ended = false := by unfold PS.ended; simp [he]
    rw [hE]
    have heb : (p.e == 0) = false := by simpa using he
    have hbp := (h).blk; have hlp := hbp.lt; have hllp := lts hlp; have qp0 := hbp.cell 0; have qp1 := hbp.cell 1; have qp2 := hbp.cell 2; have qp3 := hbp.cell 3; have qp4 := hbp.cell 4; have qp5 := hbp.cell 5; simp at qp0 qp1 qp2 qp3 qp4 qp5; have zp0 := hbp.frozen 0; have zp1 := hbp.frozen 1; have zp2 := hbp.frozen 2; have zp3 := hbp.frozen 3; have zp4 := hbp.frozen 4; have zp5 := hbp.frozen 5; have Hhbp := Lib.hid hbp; clear hbp
    clear h hE
    go_enter Tryz.func43, Tryz.ntmps43
    go_wp2_with fail
    go_quiet (fail)
    go_wp2_with fail
    go_returns
    exact ⟨rfl, by (repeat' (first | (with_reducible refine bdrewN ?_ _) | (with_reducible exact Below.refl _ _) | (with_reducible assumption) | (with_reducible refine balloc ?_ _) | (with_reducible refine Below.drew ?_) | (with_reducible refine bset ?_ ?_ _) | (with_reducible refine bstep ?_ (by with_reducible assumption)) | (with_reducible refine bturn ?_ (by with_reducible assumption) ?_) | go_size))⟩
end Go.Proofs.YtkkeplmaphcblaaGreatDoor

namespace Go.Proofs.YtkkeplmaphcblaaGreatDoor
open Go.RowKit

theorem power_any (n : Int) (h0 : 0 ≤ n) (h1 : n ≤ 12) (w : World) : Calls Tryz.prog 176 #[.int .i64 n] w fun e w' => e = .returned (.int .u64 (p10 n.toNat)) ∧ w = w' := by
  obtain ⟨n, rfl⟩ := Int.eq_ofNat_of_zero_le h0
  rw [Int.toNat_natCast]
  have hn : n ≤ 12 := by omega
  go_enter Tryz.func176, Tryz.ntmps176
  go_wp2
  go_loop [3, 5] (fun p i => ∃ k : Nat, k ≤ n ∧ i = .int .i64 k ∧ p = .int .u64 (p10 k)) (fun _ i => n - (intOf i).toNat)
  case atStart => exact ⟨0, Nat.zero_le _, rfl, rfl⟩
  case round =>
    obtain ⟨k, hk, rfl, rfl⟩ := hrel
    have hp := p10_pos k
    have hb : p10 k ≤ 1000000000000 := p10_12 ▸ p10_mono (by omega)
    have HS := Lib.hid (p10_succ k)
    by_cases hlt : k < n
    · go_wp2
      go_round
      case rel => exact ⟨k + 1, by omega, by go_num, by rw [HS.out]⟩
      case measure => simp [intOf]; omega
    · obtain rfl : k = n := by omega
      go_wp2
      go_ret
      exact ⟨rfl, rfl⟩

set_option maxHeartbeats 1000000 in
theorem short_any (n s : Int) (h0 : 0 ≤ n) (h1 : n ≤ 18446744073709551615) (h2 : 0 ≤ s) (h3 : s ≤ 100) (w : World) :
    Calls Tryz.prog 206 #[.agg #[.int .u64 n, .int .i64 s]] w fun e w' => e = .returned (.agg #[.int .u64 (short s.toNat n).1, .int .i64 (short s.toNat n).2]) ∧ Below w.heap.size w w' := by
  go_enter Tryz.func206, Tryz.ntmps206
  go_wp2
  go_loopg [] s.toNat (fun k wr => ∃ m : Int, 0 ≤ m ∧ m ≤ n ∧ k ≤ s.toNat ∧ Blk wr w.heap.size 192 #[.int .u64 m, .int .i64 k] ∧ Blk wr (w.heap.size + 1) 192 #[.int .u64 0, .int .i64 0] ∧ Below w.heap.size w wr ∧ short s.toNat n = short k m)
  case atStart => exact ⟨n, h0, Int.le_refl _, Nat.le_refl _, by rw [Int.toNat_of_nonneg h2]; exact (Blk.new _ _ _).alloc _, Blk.new' _ _ _ (by simp), by (repeat' (first | (with_reducible exact Below.refl _ _) | (with_reducible assumption) | (with_reducible refine balloc ?_ _) | (with_reducible refine Below.drew ?_) | (with_reducible refine bset ?_ ?_ _) | (with_reducible refine bstep ?_ (by with_reducible assumption)) | (with_reducible refine bturn ?_ (by with_reducible assumption) ?_) | go_size)), rfl⟩
  case round =>
    obtain ⟨m, hm0, hm1, hk, hb0, hb1, hbl, hs⟩ := hrel
    have HS := Lib.hid hs
    clear hs
    have hl0 := hb0.lt
    have c0 := hb0.cell 0
    have c1 := hb0.cell 1
    simp at c0 c1
    have z0 := hb0.frozen 0
    have z1 := hb0.frozen 1
    by_cases hz : gk = 0
    · subst hz
      go_wp2_with (refine wpList_store_blk hb1 rfl _ _ _ (by rfl) _ (by rfl) (by rfl) (by (repeat (first | (with_reducible exact hb1) | (with_reducible refine Blk.alloc ?_ _) | (with_reducible refine Blk.drew ?_) | (with_reducible refine Blk.far ?_ (by first | (simp; done) | (simp; omega)) _) | (with_reducible refine Blk.turn ?_ (by with_reducible assumption) (by omega))))) (by rfl) (by kernel_rfl) (by simp [Value.oneCell']) ?_; intro wt hb1n ht)
      refine ret_blk rfl hb1n rfl Tryz.underlying192 rfl (by kernel_rfl) rfl ?_
      exact ⟨by rw [HS.out]; rfl, bturn hbl ht (by omega)⟩
    · by_cases hd : m % 10 = 0
      · go_wp2_with (refine wpList_store_blk hb1 rfl _ _ _ (by rfl) _ (by rfl) (by rfl) (by (repeat (first | (with_reducible exact hb1) | (with_reducible refine Blk.alloc ?_ _) | (with_reducible refine Blk.drew ?_) | (with_reducible refine Blk.far ?_ (by first | (simp; done) | (simp; omega)) _) | (with_reducible refine Blk.turn ?_ (by with_reducible assumption) (by omega))))) (by rfl) (by kernel_rfl) (by simp [Value.oneCell']) ?_; intro wt hb1n ht)
        go_roundg (gk - 1)
        case measure => omega
        case rel =>
          refine ⟨m / 10, by omega, by omega, by omega, ?_, ?_, ?_, ?_⟩
          · have := (hb0.set_ 0 (.int .u64 (m / 10))).set_ 1 (.int .i64 ((gk : Int) - 1))
            rw [show (((gk - 1 : Nat) : Int)) = (gk : Int) - 1 from by omega]
            exact this
          · exact (hb1.far (by simp) _).far (by simp) _
          · exact bset (bset hbl (Nat.le_refl _) _) (Nat.le_refl _) _
          · rw [HS.out]
            obtain ⟨j, rfl⟩ : ∃ j, gk = j + 1 := ⟨gk - 1, by omega⟩
            exact short_go hd
      · go_wp2_with (refine wpList_store_blk hb1 rfl _ _ _ (by rfl) _ (by rfl) (by rfl) (by (repeat (first | (with_reducible exact hb1) | (with_reducible refine Blk.alloc ?_ _) | (with_reducible refine Blk.drew ?_) | (with_reducible refine Blk.far ?_ (by first | (simp; done) | (simp; omega)) _) | (with_reducible refine Blk.turn ?_ (by with_reducible assumption) (by omega))))) (by rfl) (by kernel_rfl) (by simp [Value.oneCell']) ?_; intro wt hb1n ht)
        refine ret_blk rfl hb1n rfl Tryz.underlying192 rfl (by kernel_rfl) rfl ?_
        exact ⟨by rw [HS.out, short_stop (.inr hd)], bturn hbl ht (by omega)⟩

set_option maxHeartbeats 1000000 in
/-- (form).dec: as a number, below 0 or not. -/
theorem dec_any (n s : Int) (b : Bool) (h0 : 0 ≤ n) (h1 : n ≤ 18446744073709551615) (h2 : 0 ≤ s) (h3 : s ≤ 100) (w : World) :
    Calls Tryz.prog 169 #[.agg #[.int .u64 n, .int .i64 s], .bool b] w fun e w' => e = .returned (.tuple #[.agg #[.int .i64 (decS s.toNat n b).n, .int .i64 (decS s.toNat n b).s], .int .i64 (decS s.toNat n b).e]) ∧ Below w.heap.size w w' := by
  have hbd := short_bd s.toNat n h0
  have hs := short_any n s h0 h1 h2 h3
  have HD : Hid (∀ q : Int × Int, short s.toNat n = q → decS s.toNat n b = if 999999999999 < q.1 then ⟨0, 0, 3⟩ else ⟨if b then -q.1 else q.1, q.2, 0⟩) := fun q hq => by unfold decS; rw [hq]; rfl
  generalize hq : short s.toNat n = q at *
  obtain ⟨m, t⟩ := q
  have HD' := HD.out _ rfl
  simp only at HD' hs
  have HS := Lib.hid hs
  clear HD hs hq
  simp only at hbd
  have hb0 := (Blk.new w 192 #[.int .u64 n, .int .i64 s]).alloc (.cells #[.int .i64 0, .int .i64 0] 23)
  have hb1 := Blk.new' (w.alloc (.cells #[.int .u64 n, .int .i64 s] 192)) 23 #[.int .i64 0, .int .i64 0] (n := w.heap.size + 1) (by simp)
  by_cases hbig : 999999999999 < m
  · rw [if_pos hbig] at HD'; replace HD' := Lib.hid HD'
    go_enter Tryz.func169, Tryz.ntmps169
    go_wp2_with fail
    refine (HS.out _).mono ?_
    rintro e w1 ⟨rfl, hb⟩
    replace hb0 := hb0.step hb
    replace hb1 := hb1.step hb
    go_wp2_with (first | (refine wpList_store_blk hb0 rfl _ _ _ (by rfl) _ (by rfl) (by rfl) (by (repeat (first | (with_reducible exact hb0) | (with_reducible refine Blk.alloc ?_ _) | (with_reducible refine Blk.drew ?_) | (with_reducible refine Blk.far ?_ (by first | (simp; done) | (simp; omega)) _) | (with_reducible refine Blk.turn ?_ (by with_reducible assumption) (by omega))))) (by rfl) (by kernel_rfl) (by simp [Value.oneCell']) ?_; intro wt hb0n ht; have c0 := hb0n.cell 0; simp at c0) | (refine wpList_store_blk hb1 rfl _ _ _ (by rfl) _ (by rfl) (by rfl) (by (repeat (first | (with_reducible exact hb1) | (with_reducible refine Blk.alloc ?_ _) | (with_reducible refine Blk.drew ?_) | (with_reducible refine Blk.far ?_ (by first | (simp; done) | (simp; omega)) _) | (with_reducible refine Blk.turn ?_ (by with_reducible assumption) (by omega))))) (by rfl) (by kernel_rfl) (by simp [Value.oneCell']) ?_; intro wt hb1n ht))
    refine ret_blk2 rfl hb1n rfl Tryz.underlying23 rfl (by kernel_rfl) rfl ?_
    exact ⟨by rw [HD'.out]; rfl, by (repeat' (first | (with_reducible exact Below.refl _ _) | (with_reducible assumption) | (with_reducible refine balloc ?_ _) | (with_reducible refine Below.drew ?_) | (with_reducible refine bset ?_ ?_ _) | (with_reducible refine bstep ?_ (by with_reducible assumption)) | (with_reducible refine bturn ?_ (by with_reducible assumption) ?_) | go_size))⟩
  · rw [if_neg hbig] at HD'; replace HD' := Lib.hid HD'
    cases b
    all_goals
      go_enter Tryz.func169, Tryz.ntmps169
      go_wp2_with fail
      refine (HS.out _).mono ?_
      rintro e w1 ⟨rfl, hb⟩
      replace hb0 := hb0.step hb
      replace hb1 := hb1.step hb
      go_wp2_with (first | (refine wpList_store_blk hb0 rfl _ _ _ (by rfl) _ (by rfl) (by rfl) (by (repeat (first | (with_reducible exact hb0) | (with_reducible refine Blk.alloc ?_ _) | (with_reducible refine Blk.drew ?_) | (with_reducible refine Blk.far ?_ (by first | (simp; done) | (simp; omega)) _) | (with_reducible refine Blk.turn ?_ (by with_reducible assumption) (by omega))))) (by rfl) (by kernel_rfl) (by simp [Value.oneCell']) ?_; intro wt hb0n ht; have c0 := hb0n.cell 0; have c1 := hb0n.cell 1; simp at c0 c1) | (refine wpList_store_blk hb1 rfl _ _ _ (by rfl) _ (by rfl) (by rfl) (by (repeat (first | (with_reducible exact hb1) | (with_reducible refine Blk.alloc ?_ _) | (with_reducible refine Blk.drew ?_) | (with_reducible refine Blk.far ?_ (by first | (simp; done) | (simp; omega)) _) | (with_reducible refine Blk.turn ?_ (by with_reducible assumption) (by omega))))) (by rfl) (by kernel_rfl) (by simp [Value.oneCell']) ?_; intro wt hb1n ht))
      refine ret_blk2 rfl hb1n rfl Tryz.underlying23 rfl (by kernel_rfl) rfl ?_
      exact ⟨by rw [HD'.out]; rfl, by (repeat' (first | (with_reducible exact Below.refl _ _) | (with_reducible assumption) | (with_reducible refine balloc ?_ _) | (with_reducible refine Below.drew ?_) | (with_reducible refine bset ?_ ?_ _) | (with_reducible refine bstep ?_ (by with_reducible assumption)) | (with_reducible refine bturn ?_ (by with_reducible assumption) ?_) | go_size))⟩
end Go.Proofs.YtkkeplmaphcblaaGreatDoor

namespace Go.Proofs.YtkkeplmaphcblaaGreatDoor
open Go.RowKit

theorem make_bad {n s : Int} (h : s < 0 ∨ 6 < s ∨ 999999999999 < n ∨ n < -999999999999) : makeS n s = ⟨0, 0, 3⟩ := by unfold makeS; rw [big_def, if_pos h]
theorem make_ok {n s : Int} (h : 0 ≤ s ∧ s ≤ 6 ∧ -999999999999 ≤ n ∧ n ≤ 999999999999) : makeS n s = decS s.toNat (mag n) (decide (n < 0)) := by unfold makeS; rw [big_def, if_neg (by omega)]

set_option maxHeartbeats 1000000 in
theorem make_any (n s : Int) (hn0 : -9223372036854775808 ≤ n) (hn1 : n ≤ 9223372036854775807) (hs0 : -9223372036854775808 ≤ s) (hs1 : s ≤ 9223372036854775807) (w : World) :
    Calls Tryz.prog 120 #[.int .i64 n, .int .i64 s] w fun e w' => e = .returned (.tuple #[.agg #[.int .i64 (makeS n s).n, .int .i64 (makeS n s).s], .int .i64 (makeS n s).e]) ∧ Below w.heap.size w w' := by
  have hb1 := Blk.new w 23 #[.int .i64 0, .int .i64 0]
  by_cases hbad : s < 0 ∨ 6 < s ∨ 999999999999 < n ∨ n < -999999999999
  · have HM := Lib.hid (make_bad hbad)
    by_cases g1 : s < 0
    · clear hbad
      go_enter Tryz.func120, Tryz.ntmps120
      go_wp2
      refine ret_blk2 rfl hb1 rfl Tryz.underlying23 rfl (by kernel_rfl) rfl ?_
      exact ⟨by rw [HM.out]; rfl, by (repeat' (first | (with_reducible exact Below.refl _ _) | (with_reducible assumption) | (with_reducible refine balloc ?_ _) | (with_reducible refine Below.drew ?_) | (with_reducible refine bset ?_ ?_ _) | (with_reducible refine bstep ?_ (by with_reducible assumption)) | (with_reducible refine bturn ?_ (by with_reducible assumption) ?_) | go_size))⟩
    by_cases g2 : 6 < s
    · clear hbad
      go_enter Tryz.func120, Tryz.ntmps120
      go_wp2
      refine ret_blk2 rfl hb1 rfl Tryz.underlying23 rfl (by kernel_rfl) rfl ?_
      exact ⟨by rw [HM.out]; rfl, by (repeat' (first | (with_reducible exact Below.refl _ _) | (with_reducible assumption) | (with_reducible refine balloc ?_ _) | (with_reducible refine Below.drew ?_) | (with_reducible refine bset ?_ ?_ _) | (with_reducible refine bstep ?_ (by with_reducible assumption)) | (with_reducible refine bturn ?_ (by with_reducible assumption) ?_) | go_size))⟩
    by_cases g3 : 999999999999 < n
    · clear hbad
      go_enter Tryz.func120, Tryz.ntmps120
      go_wp2
      refine ret_blk2 rfl hb1 rfl Tryz.underlying23 rfl (by kernel_rfl) rfl ?_
      exact ⟨by rw [HM.out]; rfl, by (repeat' (first | (with_reducible exact Below.refl _ _) | (with_reducible assumption) | (with_reducible refine balloc ?_ _) | (with_reducible refine Below.drew ?_) | (with_reducible refine bset ?_ ?_ _) | (with_reducible refine bstep ?_ (by with_reducible assumption)) | (with_reducible refine bturn ?_ (by with_reducible assumption) ?_) | go_size))⟩
    have g4 : n < -999999999999 := by omega
    clear hbad
    go_enter Tryz.func120, Tryz.ntmps120
    go_wp2
    refine ret_blk2 rfl hb1 rfl Tryz.underlying23 rfl (by kernel_rfl) rfl ?_
    exact ⟨by rw [HM.out]; rfl, by (repeat' (first | (with_reducible exact Below.refl _ _) | (with_reducible assumption) | (with_reducible refine balloc ?_ _) | (with_reducible refine Below.drew ?_) | (with_reducible refine bset ?_ ?_ _) | (with_reducible refine bstep ?_ (by with_reducible assumption)) | (with_reducible refine bturn ?_ (by with_reducible assumption) ?_) | go_size))⟩
  · have g : 0 ≤ s ∧ s ≤ 6 ∧ -999999999999 ≤ n ∧ n ≤ 999999999999 := by omega
    have HM := Lib.hid (make_ok g)
    obtain ⟨g1, g2, g3, g4⟩ := g
    clear hbad hn0 hn1 hs0 hs1
    by_cases hneg : n < 0
    · have HM2 : mag n = -n := by unfold mag; rw [if_pos hneg]
      replace HM2 := Lib.hid HM2
      have HD : decide (n < 0) = true := by simpa using hneg
      replace HD := Lib.hid HD
      go_enter Tryz.func120, Tryz.ntmps120
      go_wp2_with fail
      refine (dec_any (-n) s true (by omega) (by omega) (by omega) (by omega) _).mono ?_
      rintro e w1 ⟨rfl, hb⟩
      replace hb1 := hb1.step hb
      go_wp2_with (refine wpList_store_blk hb1 rfl _ _ _ (by rfl) _ (by rfl) (by rfl) (by (repeat (first | (with_reducible exact hb1) | (with_reducible refine Blk.alloc ?_ _) | (with_reducible refine Blk.drew ?_) | (with_reducible refine Blk.far ?_ (by first | (simp; done) | (simp; omega)) _) | (with_reducible refine Blk.turn ?_ (by with_reducible assumption) (by omega))))) (by rfl) (by kernel_rfl) (by simp [Value.oneCell']) ?_; intro wt hb1n ht)
      refine ret_blk2 rfl hb1n rfl Tryz.underlying23 rfl (by kernel_rfl) rfl ?_
      exact ⟨by rw [HM.out, HM2.out, HD.out]; rfl, by (repeat' (first | (with_reducible exact Below.refl _ _) | (with_reducible assumption) | (with_reducible refine balloc ?_ _) | (with_reducible refine Below.drew ?_) | (with_reducible refine bset ?_ ?_ _) | (with_reducible refine bstep ?_ (by with_reducible assumption)) | (with_reducible refine bturn ?_ (by with_reducible assumption) ?_) | go_size))⟩
    · have HM2 : mag n = n := by unfold mag; rw [if_neg hneg]
      replace HM2 := Lib.hid HM2
      have HD : decide (n < 0) = false := by simpa using hneg
      replace HD := Lib.hid HD
      go_enter Tryz.func120, Tryz.ntmps120
      go_wp2_with fail
      refine (dec_any n s false (by omega) (by omega) (by omega) (by omega) _).mono ?_
      rintro e w1 ⟨rfl, hb⟩
      replace hb1 := hb1.step hb
      go_wp2_with (refine wpList_store_blk hb1 rfl _ _ _ (by rfl) _ (by rfl) (by rfl) (by (repeat (first | (with_reducible exact hb1) | (with_reducible refine Blk.alloc ?_ _) | (with_reducible refine Blk.drew ?_) | (with_reducible refine Blk.far ?_ (by first | (simp; done) | (simp; omega)) _) | (with_reducible refine Blk.turn ?_ (by with_reducible assumption) (by omega))))) (by rfl) (by kernel_rfl) (by simp [Value.oneCell']) ?_; intro wt hb1n ht)
      refine ret_blk2 rfl hb1n rfl Tryz.underlying23 rfl (by kernel_rfl) rfl ?_
      exact ⟨by rw [HM.out, HM2.out, HD.out]; rfl, by (repeat' (first | (with_reducible exact Below.refl _ _) | (with_reducible assumption) | (with_reducible refine balloc ?_ _) | (with_reducible refine Below.drew ?_) | (with_reducible refine bset ?_ ?_ _) | (with_reducible refine bstep ?_ (by with_reducible assumption)) | (with_reducible refine bturn ?_ (by with_reducible assumption) ?_) | go_size))⟩

theorem run_dec_eql (w : World) (a b a' b' : Int) :
    (binOp .eql 23 (.agg #[.int .i64 a, .int .i64 b]) (.agg #[.int .i64 a', .int .i64 b'])).run Tryz.prog w = .ok (.bool (a == a' && b == b')) w := by
  go_simp
  by_cases h1 : a = a' <;> by_cases h2 : b = b' <;> simp [h1, h2]
theorem run_dec_neq (w : World) (a b a' b' : Int) :
    (binOp .neq 23 (.agg #[.int .i64 a, .int .i64 b]) (.agg #[.int .i64 a', .int .i64 b'])).run Tryz.prog w = .ok (.bool !(a == a' && b == b')) w := by
  go_simp
  by_cases h1 : a = a' <;> by_cases h2 : b = b' <;> simp [h1, h2]
attribute [local go_sem high] run_dec_eql run_dec_neq

def soundS (n s : Int) : Bool := (makeS n s).e == 0 && ((makeS n s).n == n && (makeS n s).s == s)

set_option maxHeartbeats 1000000 in
theorem sound_any (n s : Int) (hn0 : -9223372036854775808 ≤ n) (hn1 : n ≤ 9223372036854775807) (hs0 : -9223372036854775808 ≤ s) (hs1 : s ≤ 9223372036854775807) (w : World) :
    Calls Tryz.prog 80 #[.agg #[.int .i64 n, .int .i64 s]] w fun e w' => e = .returned (.bool (soundS n s)) ∧ Below w.heap.size w w' := by
  have HS : Hid (soundS n s = ((makeS n s).e == 0 && ((makeS n s).n == n && (makeS n s).s == s))) := rfl
  have hb0 := Blk.new w 23 #[.int .i64 n, .int .i64 s]
  have HMk := Lib.hid (make_any n s hn0 hn1 hs0 hs1)
  generalize makeS n s = r at *
  by_cases he : (r.e == 0) = true
  · go_enter Tryz.func80, Tryz.ntmps80
    go_wp2_with fail
    refine (HMk.out _).mono ?_
    rintro e w1 ⟨rfl, hb⟩
    replace hb0 := hb0.step hb
    have hla := hb0.lt; have hlla := lts hla; have qa0 := hb0.cell 0; have qa1 := hb0.cell 1; simp at qa0 qa1; have za0 := hb0.frozen 0; have za1 := hb0.frozen 1; have Hhb0 := Lib.hid hb0; clear hb0
    go_wp2
    go_ret
    exact ⟨by rw [HS.out]; simp [he], by (repeat' (first | (with_reducible exact Below.refl _ _) | (with_reducible assumption) | (with_reducible refine balloc ?_ _) | (with_reducible refine Below.drew ?_) | (with_reducible refine bset ?_ ?_ _) | (with_reducible refine bstep ?_ (by with_reducible assumption)) | (with_reducible refine bturn ?_ (by with_reducible assumption) ?_) | go_size))⟩
  · replace he : (r.e == 0) = false := by simpa using he
    go_enter Tryz.func80, Tryz.ntmps80
    go_wp2_with fail
    refine (HMk.out _).mono ?_
    rintro e w1 ⟨rfl, hb⟩
    replace hb0 := hb0.step hb
    have hla := hb0.lt; have hlla := lts hla; have qa0 := hb0.cell 0; have qa1 := hb0.cell 1; simp at qa0 qa1; have za0 := hb0.frozen 0; have za1 := hb0.frozen 1; have Hhb0 := Lib.hid hb0; clear hb0
    go_wp2
    go_ret
    exact ⟨by rw [HS.out]; simp [he], by (repeat' (first | (with_reducible exact Below.refl _ _) | (with_reducible assumption) | (with_reducible refine balloc ?_ _) | (with_reducible refine Below.drew ?_) | (with_reducible refine bset ?_ ?_ _) | (with_reducible refine bstep ?_ (by with_reducible assumption)) | (with_reducible refine bturn ?_ (by with_reducible assumption) ?_) | go_size))⟩

set_option maxHeartbeats 1000000 in
theorem units_any (n s : Int) (hn0 : -999999999999 ≤ n) (hn1 : n ≤ 999999999999) (hs0 : 0 ≤ s) (hs1 : s ≤ 6) (w : World) :
    Calls Tryz.prog 172 #[.agg #[.int .i64 n, .int .i64 s]] w fun e w' => e = .returned (.int .i64 (n * p10 (6 - s).toNat)) ∧ Below w.heap.size w w' := by
  have hp0 := p10_pos (6 - s).toNat
  have hp1 : p10 (6 - s).toNat ≤ 1000000 := p10_6 ▸ p10_mono (by omega)
  have hm0 : n * p10 (6 - s).toNat ≤ 1000000000000000000 := by
    have h1 : n * p10 (6 - s).toNat ≤ 999999999999 * p10 (6 - s).toNat := Int.mul_le_mul_of_nonneg_right hn1 (by omega)
    omega
  have hm1 : -1000000000000000000 ≤ n * p10 (6 - s).toNat := by
    have h1 : -999999999999 * p10 (6 - s).toNat ≤ n * p10 (6 - s).toNat := Int.mul_le_mul_of_nonneg_right hn0 (by omega)
    omega
  go_enter Tryz.func172, Tryz.ntmps172
  go_wp2_with fail
  have k1 : IntKind.i64.wrap (6 - s) = 6 - s := IntWalk.i64_in _ (by omega)
  have k2 : IntKind.i64.wrap (p10 (6 - s).toNat) = p10 (6 - s).toNat := IntWalk.i64_in _ (by omega)
  have k3 : IntKind.i64.wrap (n * p10 (6 - s).toNat) = n * p10 (6 - s).toNat := IntWalk.i64_in _ (by omega)
  go_region_held3 (fun w' => w'.cell? ⟨w.heap.size, 0, none⟩ = some (.int .i64 n) ∧ w'.cell? ⟨w.heap.size, 1, none⟩ = some (.int .i64 s)) ((first | (simp [*, World.cell?_alloc_some, World.cell?_setCell_far]; done) | (go_split_ands; (repeat' apply And.intro) <;> first | assumption | exact keep1 (by assumption) (by assumption) | (simp [go_sem]; done) | (repeat (first | (with_reducible assumption) | (with_reducible refine keepd ?_) | (with_reducible refine keepa2 ?_))))))
    ((go_at_call 176; refine (power_any _ (by omega) (by omega) _).mono ?_; rintro e w' ⟨rfl, rfl⟩))
  go_wp2
  go_ret
  exact ⟨rfl, by (repeat' (first | (with_reducible exact Below.refl _ _) | (with_reducible assumption) | (with_reducible refine balloc ?_ _) | (with_reducible refine Below.drew ?_) | (with_reducible refine bset ?_ ?_ _) | (with_reducible refine bstep ?_ (by with_reducible assumption)) | (with_reducible refine bturn ?_ (by with_reducible assumption) ?_) | go_size))⟩
end Go.Proofs.YtkkeplmaphcblaaGreatDoor

namespace Go.Proofs.YtkkeplmaphcblaaGreatDoor
open Go.RowKit
attribute [local go_sem high] run_dec_eql run_dec_neq

/-- A slice of numbers in memory. -/
def DS (w : World) (A : Option Addr) (ds : List (Int × Int)) : Prop := ∀ i d, ds[i]? = some d → ∃ b o, A = some ⟨b, o, none⟩ ∧ w.cell? ⟨b, o + i * 2, none⟩ = some (.int .i64 d.1) ∧ w.cell? ⟨b, o + i * 2 + 1, none⟩ = some (.int .i64 d.2)
theorem DS.step {w w' : World} {A : Option Addr} {ds : List (Int × Int)} (h : DS w A ds) (hb : Below w.heap.size w w') : DS w' A ds := fun i v hv => by
  obtain ⟨b, o, h0, h1, h2⟩ := h i v hv
  exact ⟨b, o, h0, keep1 hb h1, keep1 hb h2⟩
theorem ds_one {w : World} {g : Nat} {T : TypeId} {a b : Int} (h : Blk w g T #[.int .i64 a, .int .i64 b]) : DS w (some ⟨g, 0, none⟩) [(a, b)] := by
  intro i v hv
  match i, hv with
  | 0, hv => obtain rfl : (a, b) = v := by simpa using hv
             exact ⟨g, 0, rfl, h.cell 0, h.cell 1⟩
  | n + 1, hv => simp at hv
theorem ds_two {w : World} {g : Nat} {T : TypeId} {a b c d : Int} (h : Blk w g T #[.int .i64 a, .int .i64 b, .int .i64 c, .int .i64 d]) : DS w (some ⟨g, 0, none⟩) [(a, b), (c, d)] := by
  intro i v hv
  match i, hv with
  | 0, hv => obtain rfl : (a, b) = v := by simpa using hv
             exact ⟨g, 0, rfl, h.cell 0, h.cell 1⟩
  | 1, hv => obtain rfl : (c, d) = v := by simpa using hv
             exact ⟨g, 0, rfl, h.cell 2, h.cell 3⟩
  | n + 2, hv => simp at hv

def I64 (n : Int) : Prop := -9223372036854775808 ≤ n ∧ n ≤ 9223372036854775807
def allD (ds : List (Int × Int)) : Int := if ds.all (fun d => soundS d.1 d.2) then 0 else 2
theorem allD_stop {ds : List (Int × Int)} {k : Nat} {a b : Int} (hlt : k < ds.length) (hv : ds[k] = (a, b)) (h : soundS a b = false) : allD (ds.drop k) = 2 := by
  unfold allD
  rw [List.drop_eq_getElem_cons hlt, hv]
  simp [h]
theorem allD_go {ds : List (Int × Int)} {k : Nat} {a b : Int} (hlt : k < ds.length) (hv : ds[k] = (a, b)) (h : soundS a b = true) : allD (ds.drop k) = allD (ds.drop (k + 1)) := by
  unfold allD
  rw [List.drop_eq_getElem_cons hlt, hv]
  simp only [List.all_cons, h, Bool.true_and]

set_option maxHeartbeats 1000000 in
theorem all_any (A : Option Addr) (c : Nat) (ds : List (Int × Int)) (w : World) (hv : DS w A ds) (hn : ds.length ≤ maxLen) (hr : ∀ d ∈ ds, I64 d.1 ∧ I64 d.2) :
    Calls Tryz.prog 171 #[.slice A ds.length c] w fun e w' => e = .returned (.int .i64 (allD ds)) ∧ Below w.heap.size w w' := by
  unfold maxLen at hn
  go_enter Tryz.func171, Tryz.ntmps171
  go_wp2
  go_loopw [7] (fun i wr => ∃ k : Nat, k ≤ ds.length ∧ i = .int .i64 k ∧ Below w.heap.size w wr ∧ allD ds = allD (ds.drop k)) (fun i _ => ds.length - (intOf i).toNat)
  case atStart => exact ⟨0, Nat.zero_le _, rfl, Below.refl _ _, rfl⟩
  case round =>
    obtain ⟨k, hk, rfl, hbl, hall⟩ := hrel
    have HA := Lib.hid hall
    clear hall
    by_cases hlt : k < ds.length
    · obtain ⟨b, o, rfl, g0, g1⟩ := (hv.step hbl) k ds[k] (List.getElem?_eq_getElem hlt)
      have hr' := hr ds[k] (List.getElem_mem hlt)
      generalize hvv : ds[k] = d at *
      obtain ⟨x, y⟩ := d
      simp only at g0 g1 hr'
      have HV := Lib.hid hvv
      have HR := Lib.hid hr'
      clear hvv hv hr hr'
      by_cases hs : soundS x y = true
      · go_wp2_with (go_at_call 80; refine (sound_any _ _ HR.out.1.1 HR.out.1.2 HR.out.2.1 HR.out.2.2 _).mono ?_; rintro e w' ⟨rfl, hb⟩)
        go_roundw
        case rel => exact ⟨k + 1, by omega, by go_num, by (repeat' (first | (with_reducible exact Below.refl _ _) | (with_reducible assumption) | (with_reducible refine balloc ?_ _) | (with_reducible refine Below.drew ?_) | (with_reducible refine bset ?_ ?_ _) | (with_reducible refine bstep ?_ (by with_reducible assumption)) | (with_reducible refine bturn ?_ (by with_reducible assumption) ?_) | go_size)), by rw [HA.out, allD_go hlt HV.out hs]⟩
        case measure => simp [intOf]; omega
      · replace hs : soundS x y = false := by simpa using hs
        go_wp2_with (go_at_call 80; refine (sound_any _ _ HR.out.1.1 HR.out.1.2 HR.out.2.1 HR.out.2.2 _).mono ?_; rintro e w' ⟨rfl, hb⟩)
        go_ret
        exact ⟨by rw [HA.out, allD_stop hlt HV.out hs]; rfl, by (repeat' (first | (with_reducible exact Below.refl _ _) | (with_reducible assumption) | (with_reducible refine balloc ?_ _) | (with_reducible refine Below.drew ?_) | (with_reducible refine bset ?_ ?_ _) | (with_reducible refine bstep ?_ (by with_reducible assumption)) | (with_reducible refine bturn ?_ (by with_reducible assumption) ?_) | go_size))⟩
    · go_wp2
      go_ret
      exact ⟨by rw [HA.out, List.drop_of_length_le (by omega)]; rfl, hbl⟩

theorem all_lit {A : Option Addr} {n c : Nat} {ds : List (Int × Int)} {w : World} (hl : ds.length = n) (hv : DS w A ds) (hn : ds.length ≤ maxLen) (hr : ∀ d ∈ ds, I64 d.1 ∧ I64 d.2) :
    Calls Tryz.prog 171 #[.slice A n c] w fun e w' => e = .returned (.int .i64 (allD ds)) ∧ Below w.heap.size w w' := hl ▸ all_any A c ds w hv hn hr

/-- deci.all of one number, of two: what lies in the block that the call itself lays. -/
theorem all_1 (a b : Int) (ha : I64 a) (hb : I64 b) (g c : Nat) (T : TypeId) (w : World) (h : Blk w g T #[.int .i64 a, .int .i64 b]) :
    Calls Tryz.prog 171 #[.slice (some ⟨g, 0, none⟩) 1 c] w fun e w' => e = .returned (.int .i64 (if soundS a b then 0 else 2)) ∧ Below w.heap.size w w' :=
  (all_lit (ds := [(a, b)]) rfl (ds_one h) (by simp [maxLen]) (by simp [ha, hb])).mono fun e w' ⟨h1, h2⟩ => ⟨by rw [h1]; simp [allD], h2⟩
theorem all_2 (a b x y : Int) (ha : I64 a) (hb : I64 b) (hx : I64 x) (hy : I64 y) (g c : Nat) (T : TypeId) (w : World) (h : Blk w g T #[.int .i64 a, .int .i64 b, .int .i64 x, .int .i64 y]) :
    Calls Tryz.prog 171 #[.slice (some ⟨g, 0, none⟩) 2 c] w fun e w' => e = .returned (.int .i64 (if soundS a b && soundS x y then 0 else 2)) ∧ Below w.heap.size w w' :=
  (all_lit (ds := [(a, b), (x, y)]) rfl (ds_two h) (by simp [maxLen]) (by simp [ha, hb, hx, hy])).mono fun e w' ⟨h1, h2⟩ => ⟨by rw [h1]; simp [allD], h2⟩

theorem size_any (n s : Int) (h0 : -999999999999 ≤ n) (h1 : n ≤ 999999999999) (w : World) :
    Calls Tryz.prog 174 #[.agg #[.int .i64 n, .int .i64 s]] w fun e w' => e = .returned (.int .u64 (mag n)) ∧ w.alloc (.cells #[.int .i64 n, .int .i64 s] 23) = w' := by
  unfold mag
  by_cases hneg : n < 0
  · rw [if_pos hneg]
    go_enter Tryz.func174, Tryz.ntmps174
    go_wp2
    go_ret
    exact ⟨rfl, rfl⟩
  · rw [if_neg hneg]
    go_enter Tryz.func174, Tryz.ntmps174
    go_wp2
    go_ret
    exact ⟨rfl, rfl⟩

theorem sound_iff (n s : Int) : soundS n s = soundB n s := by
  by_cases hb : s < 0 ∨ 6 < s ∨ 999999999999 < n ∨ n < -999999999999
  · unfold soundS
    rw [make_bad hb]
    show false = soundB n s
    symm
    apply decide_eq_false
    rw [big_def]
    omega
  · have g : 0 ≤ s ∧ s ≤ 6 ∧ -999999999999 ≤ n ∧ n ≤ 999999999999 := by omega
    have hm : 0 ≤ mag n ∧ mag n ≤ 999999999999 := by unfold mag; split <;> omega
    have hbd := short_bd s.toNat (mag n) hm.1
    have hd : makeS n s = ⟨if decide (n < 0) = true then -(short s.toNat (mag n)).1 else (short s.toNat (mag n)).1, (short s.toNat (mag n)).2, 0⟩ := by
      rw [make_ok g]; unfold decS; rw [big_def, if_neg (by omega)]
    have hmod : mag n % 10 = 0 ↔ n % 10 = 0 := by unfold mag; split <;> omega
    unfold soundS
    rw [hd]
    by_cases hz : s = 0 ∨ ¬ n % 10 = 0
    · have hst : s.toNat = 0 ∨ ¬ mag n % 10 = 0 := by
        rcases hz with h | h
        · exact .inl (by omega)
        · exact .inr (by rw [hmod]; exact h)
      rw [short_stop hst]
      have e2 : ((s.toNat : Nat) : Int) = s := by omega
      have e1 : (if decide (n < 0) = true then -(mag n) else mag n) = n := by
        unfold mag
        by_cases h : n < 0 <;> simp [h]
      have hT : soundB n s = true := decide_eq_true (by rw [big_def]; omega)
      rw [hT]
      simp only [e1, e2]
      simp
    · have hF : soundB n s = false := decide_eq_false (by rw [big_def]; omega)
      rw [hF]
      obtain ⟨j, hj⟩ : ∃ j, s.toNat = j + 1 := ⟨s.toNat - 1, by omega⟩
      have hm10 : mag n % 10 = 0 := hmod.2 (by omega)
      rw [hj, short_go hm10]
      have hbd2 := short_bd j (mag n / 10) (by omega)
      have hne : ((short j (mag n / 10)).2 == s) = false := by
        simp only [beq_eq_false_iff_ne]
        omega
      simp only [hne, Bool.and_false]
theorem mag_bd {n : Int} (h0 : -999999999999 ≤ n) (h1 : n ≤ 999999999999) : mag n ≤ 999999999999 := by unfold mag; split <;> omega
theorem sound_bd {n s : Int} (h : soundS n s = true) : 0 ≤ s ∧ s ≤ 6 ∧ -999999999999 ≤ n ∧ n ≤ 999999999999 ∧ (s = 0 ∨ ¬ n % 10 = 0) := by
  rw [sound_iff] at h
  have := of_decide_eq_true h
  rw [big_def] at this
  exact ⟨this.1, this.2.1, this.2.2.1, this.2.2.2.1, this.2.2.2.2⟩

/-- Neg. -/
def negS (n s : Int) : Res := if soundS n s then ⟨-n, s, 0⟩ else ⟨0, 0, 2⟩
set_option maxHeartbeats 1000000 in
theorem neg_any (n s : Int) (hn : I64 n) (hs : I64 s) (w : World) :
    Calls Tryz.prog 122 #[.agg #[.int .i64 n, .int .i64 s]] w fun e w' => e = .returned (.tuple #[.agg #[.int .i64 (negS n s).n, .int .i64 (negS n s).s], .int .i64 (negS n s).e]) ∧ Below w.heap.size w w' := by
  have hb0 := (Blk.new w 23 #[.int .i64 n, .int .i64 s]).alloc (.cells #[.int .i64 0, .int .i64 0] 23)
  have hb1 := Blk.new' (w.alloc (.cells #[.int .i64 n, .int .i64 s] 23)) 23 #[.int .i64 0, .int .i64 0] (n := w.heap.size + 1) (by simp)
  have HN : Hid (I64 n ∧ I64 s) := ⟨hn, hs⟩
  clear hn hs
  by_cases h : soundS n s = true
  · have HR : negS n s = ⟨-n, s, 0⟩ := by unfold negS; rw [if_pos h]
    replace HR := Lib.hid HR
    have hbd := sound_bd h
    go_enter Tryz.func122, Tryz.ntmps122
    go_wp2_with fail
    refine (all_1 n s HN.out.1 HN.out.2 _ _ 23 _ (Blk.new' _ _ _ (by simp))).mono ?_
    rintro e w1 ⟨rfl, hb⟩
    replace hb0 := (hb0.alloc _).step hb
    replace hb1 := (hb1.alloc _).step hb
    rw [if_pos h]
    have c0 := hb0.cell 0
    have c1 := hb0.cell 1
    simp at c0 c1
    have z0 := hb0.frozen 0
    go_wp2_with (first | (refine wpList_store_blk hb1 rfl _ _ _ (by rfl) _ (by rfl) (by rfl) (by (repeat (first | (with_reducible exact hb1) | (with_reducible refine Blk.alloc ?_ _) | (with_reducible refine Blk.drew ?_) | (with_reducible refine Blk.far ?_ (by first | (simp; done) | (simp; omega)) _) | (with_reducible refine Blk.turn ?_ (by with_reducible assumption) (by omega))))) (by rfl) (by kernel_rfl) (by simp [Value.oneCell']) ?_; intro wt hb1n ht))
    refine ret_blk2 rfl hb1n rfl Tryz.underlying23 rfl (by kernel_rfl) rfl ?_
    exact ⟨by rw [HR.out]; rfl, by (repeat' (first | (with_reducible exact Below.refl _ _) | (with_reducible assumption) | (with_reducible refine balloc ?_ _) | (with_reducible refine Below.drew ?_) | (with_reducible refine bset ?_ ?_ _) | (with_reducible refine bstep ?_ (by with_reducible assumption)) | (with_reducible refine bturn ?_ (by with_reducible assumption) ?_) | go_size))⟩
  · have HR : negS n s = ⟨0, 0, 2⟩ := by unfold negS; rw [if_neg h]
    replace HR := Lib.hid HR
    go_enter Tryz.func122, Tryz.ntmps122
    go_wp2_with fail
    refine (all_1 n s HN.out.1 HN.out.2 _ _ 23 _ (Blk.new' _ _ _ (by simp))).mono ?_
    rintro e w1 ⟨rfl, hb⟩
    replace hb1 := (hb1.alloc _).step hb
    rw [if_neg h]
    go_wp2_with (first | (refine wpList_store_blk hb1 rfl _ _ _ (by rfl) _ (by rfl) (by rfl) (by (repeat (first | (with_reducible exact hb1) | (with_reducible refine Blk.alloc ?_ _) | (with_reducible refine Blk.drew ?_) | (with_reducible refine Blk.far ?_ (by first | (simp; done) | (simp; omega)) _) | (with_reducible refine Blk.turn ?_ (by with_reducible assumption) (by omega))))) (by rfl) (by kernel_rfl) (by simp [Value.oneCell']) ?_; intro wt hb1n ht))
    refine ret_blk2 rfl hb1n rfl Tryz.underlying23 rfl (by kernel_rfl) rfl ?_
    exact ⟨by rw [HR.out]; rfl, by (repeat' (first | (with_reducible exact Below.refl _ _) | (with_reducible assumption) | (with_reducible refine balloc ?_ _) | (with_reducible refine Below.drew ?_) | (with_reducible refine bset ?_ ?_ _) | (with_reducible refine bstep ?_ (by with_reducible assumption)) | (with_reducible refine bturn ?_ (by with_reducible assumption) ?_) | go_size))⟩

/-- cmp.Compare of two ints. -/
def cmpS (a b : Int) : Int := if a < b then -1 else if b < a then 1 else 0
theorem cmp_any (a b : Int) (w : World) : Calls Tryz.prog 157 #[.int .i64 a, .int .i64 b] w fun e w' => e = .returned (.int .i64 (cmpS a b)) ∧ w = w' := by
  unfold cmpS
  go_enter Tryz.func157, Tryz.ntmps157
  go_wp2
  all_goals (go_ret; exact ⟨rfl, rfl⟩)
end Go.Proofs.YtkkeplmaphcblaaGreatDoor

namespace Go.Proofs.YtkkeplmaphcblaaGreatDoor
open Go.RowKit
attribute [local go_sem high] run_dec_eql run_dec_neq

def unitsS (n s : Int) : Int := n * p10 (6 - s).toNat
theorem units_bd {n s : Int} (h0 : -999999999999 ≤ n) (h1 : n ≤ 999999999999) : -1000000000000000000 ≤ unitsS n s ∧ unitsS n s ≤ 1000000000000000000 ∨ ¬ (0 ≤ s ∧ s ≤ 6) := by
  by_cases hs : 0 ≤ s ∧ s ≤ 6
  · left
    unfold unitsS
    have hp0 := p10_pos (6 - s).toNat
    have hp1 : p10 (6 - s).toNat ≤ 1000000 := p10_6 ▸ p10_mono (by omega)
    have a1 : n * p10 (6 - s).toNat ≤ 999999999999 * p10 (6 - s).toNat := Int.mul_le_mul_of_nonneg_right h1 (by omega)
    have a2 : -999999999999 * p10 (6 - s).toNat ≤ n * p10 (6 - s).toNat := Int.mul_le_mul_of_nonneg_right h0 (by omega)
    omega
  · exact .inr hs
theorem units_lit (n s : Int) (hn0 : -999999999999 ≤ n) (hn1 : n ≤ 999999999999) (hs0 : 0 ≤ s) (hs1 : s ≤ 6) (w : World) :
    Calls Tryz.prog 172 #[.agg #[.int .i64 n, .int .i64 s]] w fun e w' => e = .returned (.int .i64 (unitsS n s)) ∧ Below w.heap.size w w' := units_any n s hn0 hn1 hs0 hs1 w

def cmpD (n s n2 s2 : Int) : Int × Int := if soundS n s && soundS n2 s2 then (cmpS (unitsS n s) (unitsS n2 s2), 0) else (0, 2)
def addS (n s n2 s2 : Int) : Res := if soundS n s && soundS n2 s2 then decS 6 (mag (unitsS n s + unitsS n2 s2)) (decide (unitsS n s + unitsS n2 s2 < 0)) else ⟨0, 0, 2⟩

set_option maxHeartbeats 1000000 in
theorem compare_any (n s n2 s2 : Int) (hn : I64 n) (hs : I64 s) (hn2 : I64 n2) (hs2 : I64 s2) (w : World) :
    Calls Tryz.prog 158 #[.agg #[.int .i64 n, .int .i64 s], .agg #[.int .i64 n2, .int .i64 s2]] w fun e w' => e = .returned (.tuple #[.int .i64 (cmpD n s n2 s2).1, .int .i64 (cmpD n s n2 s2).2]) ∧ Below w.heap.size w w' := by
  have hb0 := (Blk.new w 23 #[.int .i64 n, .int .i64 s]).alloc (.cells #[.int .i64 n2, .int .i64 s2] 23)
  have hb2 := Blk.new' (w.alloc (.cells #[.int .i64 n, .int .i64 s] 23)) 23 #[.int .i64 n2, .int .i64 s2] (n := w.heap.size + 1) (by simp)
  have HN : Hid ((I64 n ∧ I64 s) ∧ I64 n2 ∧ I64 s2) := ⟨⟨hn, hs⟩, hn2, hs2⟩
  clear hn hs hn2 hs2
  by_cases h : (soundS n s && soundS n2 s2) = true
  · have HR : cmpD n s n2 s2 = (cmpS (unitsS n s) (unitsS n2 s2), 0) := by unfold cmpD; rw [if_pos h]
    replace HR := Lib.hid HR
    have h' := h
    simp only [Bool.and_eq_true] at h'
    obtain ⟨b1, b2, b3, b4, _⟩ := sound_bd h'.1
    obtain ⟨d1, d2, d3, d4, _⟩ := sound_bd h'.2
    clear h'
    go_enter Tryz.func158, Tryz.ntmps158
    go_wp2_with fail
    refine (all_2 n s n2 s2 HN.out.1.1 HN.out.1.2 HN.out.2.1 HN.out.2.2 _ _ 23 _ (Blk.new' _ _ _ (by simp))).mono ?_
    rintro e w1 ⟨rfl, hb⟩
    replace hb0 := (hb0.alloc _).step hb
    replace hb2 := (hb2.alloc _).step hb
    rw [if_pos h]
    have c0 := hb0.cell 0
    have c1 := hb0.cell 1
    have e0 := hb2.cell 0
    have e1 := hb2.cell 1
    simp at c0 c1 e0 e1
    clear h
    go_wp2_with fail
    go_region_held3 (fun w' => (w'.cell? ⟨w.heap.size, 0, none⟩ = some (.int .i64 n) ∧ w'.cell? ⟨w.heap.size, 1, none⟩ = some (.int .i64 s)) ∧ w'.cell? ⟨w.heap.size + 1, 0, none⟩ = some (.int .i64 n2) ∧ w'.cell? ⟨w.heap.size + 1, 1, none⟩ = some (.int .i64 s2)) ((first | (simp [*, World.cell?_alloc_some, World.cell?_setCell_far]; done) | (go_split_ands; (repeat' apply And.intro) <;> first | assumption | exact keep1 (by assumption) (by assumption) | (simp [go_sem]; done) | (repeat (first | (with_reducible assumption) | (with_reducible refine keepd ?_) | (with_reducible refine keepa2 ?_))))))
      (first
        | (go_at_call 172; refine (units_lit _ _ (by assumption) (by assumption) (by assumption) (by assumption) _).mono ?_; rintro e w' ⟨rfl, hb'⟩)
        | (go_at_call 157; refine (cmp_any _ _ _).mono ?_; rintro e w' ⟨rfl, rfl⟩))
    go_wp2_with fail
    go_returns
    exact ⟨by rw [HR.out]; rfl, by (repeat' (first | (with_reducible exact Below.refl _ _) | (with_reducible assumption) | (with_reducible refine balloc ?_ _) | (with_reducible refine Below.drew ?_) | (with_reducible refine bset ?_ ?_ _) | (with_reducible refine bstep ?_ (by with_reducible assumption)) | (with_reducible refine bturn ?_ (by with_reducible assumption) ?_) | go_size))⟩
  · have HR : cmpD n s n2 s2 = (0, 2) := by unfold cmpD; rw [if_neg h]
    replace HR := Lib.hid HR
    go_enter Tryz.func158, Tryz.ntmps158
    go_wp2_with fail
    refine (all_2 n s n2 s2 HN.out.1.1 HN.out.1.2 HN.out.2.1 HN.out.2.2 _ _ 23 _ (Blk.new' _ _ _ (by simp))).mono ?_
    rintro e w1 ⟨rfl, hb⟩
    rw [if_neg h]
    go_wp2_with fail
    go_returns
    exact ⟨by rw [HR.out]; rfl, by (repeat' (first | (with_reducible exact Below.refl _ _) | (with_reducible assumption) | (with_reducible refine balloc ?_ _) | (with_reducible refine Below.drew ?_) | (with_reducible refine bset ?_ ?_ _) | (with_reducible refine bstep ?_ (by with_reducible assumption)) | (with_reducible refine bturn ?_ (by with_reducible assumption) ?_) | go_size))⟩

set_option maxHeartbeats 2000000 in
set_option maxRecDepth 100000 in
theorem add_any (n s n2 s2 : Int) (hn : I64 n) (hs : I64 s) (hn2 : I64 n2) (hs2 : I64 s2) (w : World) :
    Calls Tryz.prog 123 #[.agg #[.int .i64 n, .int .i64 s], .agg #[.int .i64 n2, .int .i64 s2]] w fun e w' => e = .returned (.tuple #[.agg #[.int .i64 (addS n s n2 s2).n, .int .i64 (addS n s n2 s2).s], .int .i64 (addS n s n2 s2).e]) ∧ Below w.heap.size w w' := by
  have hb0 := ((Blk.new w 23 #[.int .i64 n, .int .i64 s]).alloc (.cells #[.int .i64 n2, .int .i64 s2] 23)).alloc (.cells #[.int .i64 0, .int .i64 0] 23)
  have hb2 := (Blk.new' (w.alloc (.cells #[.int .i64 n, .int .i64 s] 23)) 23 #[.int .i64 n2, .int .i64 s2] (n := w.heap.size + 1) (by simp)).alloc (.cells #[.int .i64 0, .int .i64 0] 23)
  have hb1 := Blk.new' ((w.alloc (.cells #[.int .i64 n, .int .i64 s] 23)).alloc (.cells #[.int .i64 n2, .int .i64 s2] 23)) 23 #[.int .i64 0, .int .i64 0] (n := w.heap.size + 1 + 1) (by simp)
  have HN : Hid ((I64 n ∧ I64 s) ∧ I64 n2 ∧ I64 s2) := ⟨⟨hn, hs⟩, hn2, hs2⟩
  clear hn hs hn2 hs2
  by_cases h : (soundS n s && soundS n2 s2) = true
  · have HR : addS n s n2 s2 = decS 6 (mag (unitsS n s + unitsS n2 s2)) (decide (unitsS n s + unitsS n2 s2 < 0)) := by unfold addS; rw [if_pos h]
    replace HR := Lib.hid HR
    have h' := h
    simp only [Bool.and_eq_true] at h'
    obtain ⟨b1, b2, b3, b4, _⟩ := sound_bd h'.1
    obtain ⟨d1, d2, d3, d4, _⟩ := sound_bd h'.2
    clear h'
    have u1 := (units_bd (s := s) b3 b4).resolve_right (by omega)
    have u2 := (units_bd (s := s2) d3 d4).resolve_right (by omega)
    have k1 : IntKind.i64.wrap (unitsS n s + unitsS n2 s2) = unitsS n s + unitsS n2 s2 := IntWalk.i64_in _ (by omega)
    obtain ⟨u1a, u1b⟩ := u1
    obtain ⟨u2a, u2b⟩ := u2
    by_cases hneg : unitsS n s + unitsS n2 s2 < 0
    · have HM : mag (unitsS n s + unitsS n2 s2) = -(unitsS n s + unitsS n2 s2) := by unfold mag; rw [if_pos hneg]
      replace HM := Lib.hid HM
      have HD : decide (unitsS n s + unitsS n2 s2 < 0) = true := by simpa using hneg
      replace HD := Lib.hid HD
      go_enter Tryz.func123, Tryz.ntmps123
      go_wp2_with fail
      refine (all_2 n s n2 s2 HN.out.1.1 HN.out.1.2 HN.out.2.1 HN.out.2.2 _ _ 23 _ (Blk.new' _ _ _ (by simp))).mono ?_
      rintro e w1 ⟨rfl, hb⟩
      replace hb0 := (hb0.alloc _).step hb
      replace hb2 := (hb2.alloc _).step hb
      replace hb1 := (hb1.alloc _).step hb
      rw [if_pos h]
      have c0 := hb0.cell 0
      have c1 := hb0.cell 1
      have e0 := hb2.cell 0
      have e1 := hb2.cell 1
      simp at c0 c1 e0 e1
      clear h
      go_wp2_with fail
      go_region_held3 (fun w' => (Blk w' (w.heap.size + 1 + 1) 23 #[.int .i64 0, .int .i64 0]) ∧ (w'.cell? ⟨w.heap.size, 0, none⟩ = some (.int .i64 n) ∧ w'.cell? ⟨w.heap.size, 1, none⟩ = some (.int .i64 s)) ∧ w'.cell? ⟨w.heap.size + 1, 0, none⟩ = some (.int .i64 n2) ∧ w'.cell? ⟨w.heap.size + 1, 1, none⟩ = some (.int .i64 s2)) ((go_split_ands; (repeat' apply And.intro) <;> first | assumption | exact keep1 (by assumption) (by assumption) | exact Blk.step (by assumption) (by assumption)))
        (first
          | (go_at_call 172; refine (units_lit _ _ (by assumption) (by assumption) (by assumption) (by assumption) _).mono ?_; rintro e w' ⟨rfl, hb'⟩))
      clear k1
      go_split_ands
      go_wp2_with fail
      refine (dec_any (-(unitsS n s + unitsS n2 s2)) 6 true (by omega) (by omega) (by omega) (by omega) _).mono ?_
      rintro e w5 ⟨rfl, hb5⟩
      have hr : Blk w5 (w.heap.size + 1 + 1) 23 #[.int .i64 0, .int .i64 0] := Blk.step (by assumption) hb5
      go_wp2_with (first | (refine wpList_store_blk hr rfl _ _ _ (by rfl) _ (by rfl) (by rfl) (by (repeat (first | (with_reducible exact hr) | (with_reducible refine Blk.alloc ?_ _) | (with_reducible refine Blk.drew ?_) | (with_reducible refine Blk.far ?_ (by first | (simp; done) | (simp; omega)) _) | (with_reducible refine Blk.turn ?_ (by with_reducible assumption) (by omega))))) (by rfl) (by kernel_rfl) (by simp [Value.oneCell']) ?_; intro wt hrn ht))
      refine ret_blk2 rfl hrn rfl Tryz.underlying23 rfl (by kernel_rfl) rfl ?_
      exact ⟨by rw [HR.out, HM.out, HD.out]; rfl, by (repeat' (first | (with_reducible exact Below.refl _ _) | (with_reducible assumption) | (with_reducible refine balloc ?_ _) | (with_reducible refine Below.drew ?_) | (with_reducible refine bset ?_ ?_ _) | (with_reducible refine bstep ?_ (by with_reducible assumption)) | (with_reducible refine bturn ?_ (by with_reducible assumption) ?_) | go_size))⟩
    · have HM : mag (unitsS n s + unitsS n2 s2) = (unitsS n s + unitsS n2 s2) := by unfold mag; rw [if_neg hneg]
      replace HM := Lib.hid HM
      go_enter Tryz.func123, Tryz.ntmps123
      go_wp2_with fail
      refine (all_2 n s n2 s2 HN.out.1.1 HN.out.1.2 HN.out.2.1 HN.out.2.2 _ _ 23 _ (Blk.new' _ _ _ (by simp))).mono ?_
      rintro e w1 ⟨rfl, hb⟩
      replace hb0 := (hb0.alloc _).step hb
      replace hb2 := (hb2.alloc _).step hb
      replace hb1 := (hb1.alloc _).step hb
      rw [if_pos h]
      have c0 := hb0.cell 0
      have c1 := hb0.cell 1
      have e0 := hb2.cell 0
      have e1 := hb2.cell 1
      simp at c0 c1 e0 e1
      clear h
      go_wp2_with fail
      go_region_held3 (fun w' => (Blk w' (w.heap.size + 1 + 1) 23 #[.int .i64 0, .int .i64 0]) ∧ (w'.cell? ⟨w.heap.size, 0, none⟩ = some (.int .i64 n) ∧ w'.cell? ⟨w.heap.size, 1, none⟩ = some (.int .i64 s)) ∧ w'.cell? ⟨w.heap.size + 1, 0, none⟩ = some (.int .i64 n2) ∧ w'.cell? ⟨w.heap.size + 1, 1, none⟩ = some (.int .i64 s2)) ((go_split_ands; (repeat' apply And.intro) <;> first | assumption | exact keep1 (by assumption) (by assumption) | exact Blk.step (by assumption) (by assumption)))
        (first
          | (go_at_call 172; refine (units_lit _ _ (by assumption) (by assumption) (by assumption) (by assumption) _).mono ?_; rintro e w' ⟨rfl, hb'⟩))
      clear k1
      go_split_ands
      go_wp2_with fail
      refine (dec_any (unitsS n s + unitsS n2 s2) 6 (decide (unitsS n s + unitsS n2 s2 < 0)) (by omega) (by omega) (by omega) (by omega) _).mono ?_
      rintro e w5 ⟨rfl, hb5⟩
      have hr : Blk w5 (w.heap.size + 1 + 1) 23 #[.int .i64 0, .int .i64 0] := Blk.step (by assumption) hb5
      go_wp2_with (first | (refine wpList_store_blk hr rfl _ _ _ (by rfl) _ (by rfl) (by rfl) (by (repeat (first | (with_reducible exact hr) | (with_reducible refine Blk.alloc ?_ _) | (with_reducible refine Blk.drew ?_) | (with_reducible refine Blk.far ?_ (by first | (simp; done) | (simp; omega)) _) | (with_reducible refine Blk.turn ?_ (by with_reducible assumption) (by omega))))) (by rfl) (by kernel_rfl) (by simp [Value.oneCell']) ?_; intro wt hrn ht))
      refine ret_blk2 rfl hrn rfl Tryz.underlying23 rfl (by kernel_rfl) rfl ?_
      exact ⟨by rw [HR.out, HM.out]; rfl, by (repeat' (first | (with_reducible exact Below.refl _ _) | (with_reducible assumption) | (with_reducible refine balloc ?_ _) | (with_reducible refine Below.drew ?_) | (with_reducible refine bset ?_ ?_ _) | (with_reducible refine bstep ?_ (by with_reducible assumption)) | (with_reducible refine bturn ?_ (by with_reducible assumption) ?_) | go_size))⟩
  · have HR : addS n s n2 s2 = ⟨0, 0, 2⟩ := by unfold addS; rw [if_neg h]
    replace HR := Lib.hid HR
    go_enter Tryz.func123, Tryz.ntmps123
    go_wp2_with fail
    refine (all_2 n s n2 s2 HN.out.1.1 HN.out.1.2 HN.out.2.1 HN.out.2.2 _ _ 23 _ (Blk.new' _ _ _ (by simp))).mono ?_
    rintro e w1 ⟨rfl, hb⟩
    replace hb1 := (hb1.alloc _).step hb
    rw [if_neg h]
    go_wp2_with (first | (refine wpList_store_blk hb1 rfl _ _ _ (by rfl) _ (by rfl) (by rfl) (by (repeat (first | (with_reducible exact hb1) | (with_reducible refine Blk.alloc ?_ _) | (with_reducible refine Blk.drew ?_) | (with_reducible refine Blk.far ?_ (by first | (simp; done) | (simp; omega)) _) | (with_reducible refine Blk.turn ?_ (by with_reducible assumption) (by omega))))) (by rfl) (by kernel_rfl) (by simp [Value.oneCell']) ?_; intro wt hb1n ht))
    refine ret_blk2 rfl hb1n rfl Tryz.underlying23 rfl (by kernel_rfl) rfl ?_
    exact ⟨by rw [HR.out]; rfl, by (repeat' (first | (with_reducible exact Below.refl _ _) | (with_reducible assumption) | (with_reducible refine balloc ?_ _) | (with_reducible refine Below.drew ?_) | (with_reducible refine bset ?_ ?_ _) | (with_reducible refine bstep ?_ (by with_reducible assumption)) | (with_reducible refine bturn ?_ (by with_reducible assumption) ?_) | go_size))⟩
end Go.Proofs.YtkkeplmaphcblaaGreatDoor

namespace Go.Proofs.YtkkeplmaphcblaaGreatDoor
open Go.RowKit Go.Lib Go.Sort

set_option maxHeartbeats 6400000 in
set_option maxRecDepth 100000 in
theorem fmt_in (u : Nat) (hu64 : u < 18446744073709551616) (w : World) (htab : Lib.TabIs Tryz.prog w "internal/strconv.uint64pow10" .u64 Lib.pow10Tab) :
    Calls Tryz.prog 209 #[.int .u64 u, .int .i64 10] w fun e w' => e = .returned (.string ⟨(Lib.decDigits u).toArray⟩) ∧ Below w.heap.size w w' := by
  by_cases hs : u < 100
  · have iu : (u : Int) < (100 : Int) := by omega
    have kw : IntKind.i64.wrap (u : Int) = (u : Int) := IntWalk.i64_in _ (by omega)
    go_enter Tryz.func209, Tryz.ntmps209
    go_wp2_with (go_at_call 231; refine (Tryz.internal_strconv_small u hs _).mono ?_; rintro e w' ⟨rfl, rfl⟩)
    go_ret
    exact ⟨rfl, by (repeat' (first | (with_reducible exact Below.refl _ _) | (with_reducible assumption) | (with_reducible refine balloc ?_ _) | (with_reducible refine Below.drew ?_) | (with_reducible refine bset ?_ ?_ _) | (with_reducible refine bstep ?_ (by with_reducible assumption)) | (with_reducible refine bturn ?_ (by with_reducible assumption) ?_) | go_size))⟩
  · have iu : (100 : Int) ≤ (u : Int) := by omega
    have hu1 : 1 ≤ u := by omega
    have hnd20 : Lib.nDigits u ≤ 20 := by have := Lib.numDigits_eq u hu1 hu64; split at this <;> omega
    have hal : Tryz.prog.arrayLen 263 = 24 := by kernel_rfl
    have hsl : ∀ W, (Instr.sliceAt 263 (.pointer (some ⟨w.heap.size, 0, none⟩)) none (some (.int .i64 (Lib.nDigits u : Int))) none).run Tryz.prog W = .ok (.slice (some ⟨w.heap.size, 0, none⟩) (Lib.nDigits u) 24) W := fun W => by
      rw [run_sliceAt_array_h W 263 ⟨w.heap.size, 0, none⟩ (by kernel_rfl) .i64 (Lib.nDigits u : Int) (by omega) (by rw [hal]; omega)]
      go_simp
    have hH0 := Lib.holds_zero0 w 263 (Lib.nDigits u) (by omega)
    have hfmt := Tryz.internal_strconv_formatBase10 w.heap.size 0 24 u (Array.replicate (Lib.nDigits u) 0) (w.alloc (.cells Lib.zeros24 263)) hH0 (by rw [Array.size_replicate]; exact Lib.lt_pow_nDigits u) hu64 (by rw [Array.size_replicate]; omega)
    rw [Array.size_replicate] at hfmt
    have HH0 := Lib.hid hH0
    clear hH0 hal
    go_enter Tryz.func209, Tryz.ntmps209
    go_wp2_with (first
      | (go_at_call 232; refine (Tryz.internal_strconv_numDigits u hu1 hu64 _ (Lib.tabIs_alloc htab _)).mono ?_; rintro e w' ⟨rfl, rfl⟩))
    go_at_call 233
    refine hfmt.mono ?_
    rintro e w' ⟨rfl, k, v', dk, rfl, hF⟩
    have hcv : (convert 93 9 (.slice (some ⟨w.heap.size, 0, none⟩) (Lib.nDigits u) 24)).run Tryz.prog ((putRow (fun (b : UInt8) => Value.int .u8 (b.toNat : Int)) (w.alloc (.cells Lib.zeros24 263)) w.heap.size 0 dk).drewN k) = .ok (.string ⟨(Lib.decDigits u).toArray⟩) ((putRow (fun (b : UInt8) => Value.int .u8 (b.toNat : Int)) (w.alloc (.cells Lib.zeros24 263)) w.heap.size 0 dk).drewN k) := by
      have h := run_convert_bytes_back (P := Tryz.prog) ((putRow (fun (b : UInt8) => Value.int .u8 (b.toNat : Int)) (w.alloc (.cells Lib.zeros24 263)) w.heap.size 0 dk).drewN k) 93 9 5 ⟨w.heap.size, 0, none⟩ 24 (Lib.decDigits u) Tryz.underlying93 Tryz.underlying5 Tryz.underlying9 (fun j hj => by
        rw [Lib.row_is_numeral hF j hj, Lib.add_plain, World.cell?_drewN]
        exact cell?_putRow (fun (b : UInt8) => Value.int .u8 (b.toNat : Int)) _ w.heap.size 0 _ dk HH0.out (by rw [hF.size, Array.size_replicate]) j (by rw [hF.size]; rw [Lib.decDigits_length] at hj; exact hj))
      rw [Lib.decDigits_length] at h
      exact h
    go_wp2
    go_ret
    obtain ⟨os, eo⟩ := Lib.fin_at w (.cells Lib.zeros24 263) dk k 0
    exact ⟨rfl, by first | (rw [eo]; exact Lib.below_grow _ w (Nat.le_refl _) k os) | (refine Below.drew ?_; rw [eo]; exact Lib.below_grow _ w (Nat.le_refl _) k os)⟩

theorem fmt_any (u : Nat) (hu64 : u < 18446744073709551616) (w : World) (htab : Lib.TabIs Tryz.prog w "internal/strconv.uint64pow10" .u64 Lib.pow10Tab) :
    Calls Tryz.prog 183 #[.int .u64 u, .int .i64 10] w fun e w' => e = .returned (.string ⟨(Lib.decDigits u).toArray⟩) ∧ Below w.heap.size w w' := by
  go_enter Tryz.func183, Tryz.ntmps183
  go_wp2_with (go_at_call 209; refine (fmt_in u hu64 _ htab).mono ?_; rintro e w' ⟨rfl, hb⟩)
  go_ret
  exact ⟨rfl, hb⟩
end Go.Proofs.YtkkeplmaphcblaaGreatDoor

namespace Go.Proofs.YtkkeplmaphcblaaGreatDoor
open Go.RowKit

def cutset : ByteArray := ⟨#[48, 49, 50, 51, 52, 53, 54, 55, 56, 57]⟩
def digB (s : ByteArray) : Bool := !s.toList.isEmpty && (Lib.trimS s.data.toList cutset.data.toList).isEmpty

theorem trim_any (s : ByteArray) (hs : s.size ≤ 9223372036854775807) (w : World) :
    Calls Tryz.prog 58 #[.string s, .string ⟨#[48, 49, 50, 51, 52, 53, 54, 55, 56, 57]⟩] w fun e w' => e = .returned (.string ⟨(Lib.trimS s.data.toList cutset.data.toList).toArray⟩) ∧ Below w.heap.size w w' :=
  Any.strings_Trim_laid Tryz.lays160 (by kernel_rfl) s ⟨#[48, 49, 50, 51, 52, 53, 54, 55, 56, 57]⟩ w hs (by decide) (ascii_of_all (by decide))

theorem digits_any (s : ByteArray) (hs : s.size ≤ 9223372036854775807) (w : World) :
    Calls Tryz.prog 224 #[.string s] w fun e w' => e = .returned (.bool (digB s)) ∧ Below w.heap.size w w' := by
  by_cases h : s.toList = []
  · have HR : digB s = false := by unfold digB; rw [h]; rfl
    have h2 : s.toList.isEmpty = true := by rw [h]; rfl
    replace HR := Lib.hid HR
    go_enter Tryz.func224, Tryz.ntmps224
    go_wp2_with fail
    go_ret
    exact ⟨by rw [HR.out]; rfl, by (repeat' (first | (with_reducible exact Below.refl _ _) | (with_reducible assumption) | (with_reducible refine balloc ?_ _) | (with_reducible refine Below.drew ?_) | (with_reducible refine bset ?_ ?_ _) | (with_reducible refine bstep ?_ (by with_reducible assumption)) | (with_reducible refine bturn ?_ (by with_reducible assumption) ?_) | go_size))⟩
  · have HR : digB s = (Lib.trimS s.data.toList cutset.data.toList).isEmpty := by unfold digB; simp [h]
    replace HR := Lib.hid HR
    go_enter Tryz.func224, Tryz.ntmps224
    go_wp2_with (first | (go_at_call 58; refine (trim_any s hs _).mono ?_; rintro e w' ⟨rfl, hb⟩))
    go_ret
    exact ⟨rfl, by (repeat' (first | (with_reducible exact Below.refl _ _) | (with_reducible assumption) | (with_reducible refine balloc ?_ _) | (with_reducible refine Below.drew ?_) | (with_reducible refine bset ?_ ?_ _) | (with_reducible refine bstep ?_ (by with_reducible assumption)) | (with_reducible refine bturn ?_ (by with_reducible assumption) ?_) | go_size))⟩

theorem cut_lit (s a b : ByteArray) (d : Bool) (m : Int) (w : World) (hs : s.size < 4294967281) (hm : w.cell? ⟨1, 0, none⟩ = some (.int .i64 m))
    (h : Lib.cut s.data.toList [46] = (a.data.toList, b.data.toList, d)) :
    Calls Tryz.prog 223 #[.string s, .string ⟨#[46]⟩] w fun e w' => e = .returned (.tuple #[.string a, .string b, .bool d]) ∧ Below w.heap.size w w' := by
  refine (Tryz.strings_Cut s ⟨#[46]⟩ m w hs hm).mono ?_
  rintro e w' ⟨rfl, n, rfl⟩
  rw [show (⟨#[46]⟩ : ByteArray).data.toList = [46] from rfl, h]
  exact ⟨rfl, (Lib.below_grow _ w (Nat.le_refl _) n #[] : _)⟩

theorem prefix_lit (s a : ByteArray) (d : Bool) (w : World) (h : Lib.trimPrefix s.data.toList [45] = a.data.toList) (h2 : Lib.hasPrefix s.data.toList [45] = d) :
    Calls Tryz.prog 222 #[.string s, .string ⟨#[45]⟩] w fun e w' => e = .returned (.tuple #[.string a, .bool d]) ∧ w' = w := by
  refine (Tryz.strings_CutPrefix s ⟨#[45]⟩ w).mono ?_
  rintro e w' ⟨rfl, rfl⟩
  rw [show (⟨#[45]⟩ : ByteArray).data.toList = [45] from rfl, h, h2]
  exact ⟨rfl, rfl⟩

theorem right_lit (s a : ByteArray) (w : World) (hs : s.size ≤ 9223372036854775807) (h : Lib.trimRightB s.data.toList 48 = a.data.toList) :
    Calls Tryz.prog 225 #[.string s, .string ⟨#[48]⟩] w fun e w' => e = .returned (.string a) ∧ w' = w := by
  refine (Tryz.strings_TrimRight_one s 48 (by decide) w hs).mono ?_
  rintro e w' ⟨rfl, rfl⟩
  rw [h]
  exact ⟨rfl, rfl⟩

theorem uint_lit (s : ByteArray) (u : Nat) (w : World) (hs : s.size ≤ 9223372036854775806) (h : Lib.parseUintB 64 s.data.toList = .ok u) :
    Calls Tryz.prog 226 #[.string s, .int .i64 10, .int .i64 64] w fun e w' => e = .returned (.tuple #[.int .u64 u, .nilIface]) ∧ Below w.heap.size w w' := by
  refine (Tryz.strconv_ParseUint_10_at64_ok s hs u h w).mono ?_
  rintro e w' ⟨rfl, rfl | rfl⟩
  · exact ⟨rfl, Below.refl _ _⟩
  · exact ⟨rfl, Lib.bytesWorld_below _ _ _⟩

theorem p1 (W : World) : Calls Tryz.prog 222 #[.string ⟨#[49, 50, 46, 53, 48]⟩, .string ⟨#[45]⟩] W fun e w' => e = .returned (.tuple #[.string ⟨#[49, 50, 46, 53, 48]⟩, .bool false]) ∧ w' = W := prefix_lit ⟨#[49, 50, 46, 53, 48]⟩ ⟨#[49, 50, 46, 53, 48]⟩ false W (by decide +kernel) (by decide +kernel)
theorem p2 (m : Int) (W : World) (hm : W.cell? ⟨1, 0, none⟩ = some (.int .i64 m)) : Calls Tryz.prog 223 #[.string ⟨#[49, 50, 46, 53, 48]⟩, .string ⟨#[46]⟩] W fun e w' => e = .returned (.tuple #[.string ⟨#[49, 50]⟩, .string ⟨#[53, 48]⟩, .bool true]) ∧ Below W.heap.size W w' := cut_lit ⟨#[49, 50, 46, 53, 48]⟩ ⟨#[49, 50]⟩ ⟨#[53, 48]⟩ true m W (by decide) hm (by decide +kernel)
theorem d1 (W : World) : Calls Tryz.prog 224 #[.string ⟨#[49, 50]⟩] W fun e w' => e = .returned (.bool true) ∧ Below W.heap.size W w' := by
  have h := digits_any ⟨#[49, 50]⟩ (by decide) W
  rw [show digB ⟨#[49, 50]⟩ = true by decide +kernel] at h
  exact h
theorem d2 (W : World) : Calls Tryz.prog 224 #[.string ⟨#[53, 48]⟩] W fun e w' => e = .returned (.bool true) ∧ Below W.heap.size W w' := by
  have h := digits_any ⟨#[53, 48]⟩ (by decide) W
  rw [show digB ⟨#[53, 48]⟩ = true by decide +kernel] at h
  exact h
theorem p3 (W : World) : Calls Tryz.prog 225 #[.string ⟨#[53, 48]⟩, .string ⟨#[48]⟩] W fun e w' => e = .returned (.string ⟨#[53]⟩) ∧ w' = W := right_lit ⟨#[53, 48]⟩ ⟨#[53]⟩ W (by decide) (by decide +kernel)
theorem p4 (W : World) : Calls Tryz.prog 226 #[.string ⟨#[49, 50, 53]⟩, .int .i64 10, .int .i64 64] W fun e w' => e = .returned (.tuple #[.int .u64 125, .nilIface]) ∧ Below W.heap.size W w' := uint_lit ⟨#[49, 50, 53]⟩ 125 W (by decide) (by decide +kernel)

set_option maxHeartbeats 1000000 in
set_option maxRecDepth 100000 in
theorem parse_awake (m : Int) (w : World) (hm : w.cell? ⟨1, 0, none⟩ = some (.int .i64 m)) :
    Calls Tryz.prog 201 #[.string ⟨#[49, 50, 46, 53, 48]⟩] w fun e w' => e = .returned (.tuple #[.agg #[.int .i64 125, .int .i64 1], .int .i64 0]) ∧ Below w.heap.size w w' := by
  have hb1 := Blk.new w 23 #[.int .i64 0, .int .i64 0]
  have HM := Lib.hid hm
  have hm2 : (w.alloc (.cells #[.int .i64 0, .int .i64 0] 23)).cell? ⟨1, 0, none⟩ = some (.int .i64 m) := by exact (World.cell?_alloc_some w _ _ (by rw [hm]; rfl)).trans hm
  clear hm
  replace hm2 := Lib.hid hm2
  go_enter Tryz.func201, Tryz.ntmps201
  go_wp2_with fail
  refine (p1 _).mono ?_
  rintro e w1 ⟨rfl, rfl⟩
  go_wp2_with fail
  refine (p2 m _ hm2.out).mono ?_
  rintro e w2 ⟨rfl, hb2⟩
  replace hb1 := hb1.step hb2
  go_wp2_with fail
  refine (d1 _).mono ?_
  rintro e w3 ⟨rfl, hb3⟩
  replace hb1 := hb1.step hb3
  go_wp2_with fail
  refine (d2 _).mono ?_
  rintro e w4 ⟨rfl, hb4⟩
  replace hb1 := hb1.step hb4
  go_wp2_with fail
  refine (p3 _).mono ?_
  rintro e w5 ⟨rfl, rfl⟩
  go_wp2_with fail
  refine (p4 _).mono ?_
  rintro e w6 ⟨rfl, hb6⟩
  replace hb1 := hb1.step hb6
  go_wp2_with fail
  refine (dec_any 125 1 false (by omega) (by omega) (by omega) (by omega) _).mono ?_
  rintro e w7 ⟨rfl, hb7⟩
  replace hb1 := hb1.step hb7
  go_wp2_with (refine wpList_store_blk hb1 rfl _ _ _ (by rfl) _ (by rfl) (by rfl) (by (repeat (first | (with_reducible exact hb1) | (with_reducible refine Blk.alloc ?_ _) | (with_reducible refine Blk.drew ?_) | (with_reducible refine Blk.far ?_ (by first | (simp; done) | (simp; omega)) _) | (with_reducible refine Blk.turn ?_ (by with_reducible assumption) (by omega))))) (by rfl) (by kernel_rfl) (by simp [Value.oneCell']) ?_; intro wt hb1n ht)
  refine ret_blk2 rfl hb1n rfl Tryz.underlying23 rfl (by kernel_rfl) rfl ?_
  exact ⟨by rw [show (decS 1 125 false).n = 125 by decide +kernel, show (decS 1 125 false).s = 1 by decide +kernel, show (decS 1 125 false).e = 0 by decide +kernel]; rfl, by (repeat' (first | (with_reducible exact Below.refl _ _) | (with_reducible assumption) | (with_reducible refine balloc ?_ _) | (with_reducible refine Below.drew ?_) | (with_reducible refine bset ?_ ?_ _) | (with_reducible refine bstep ?_ (by with_reducible assumption)) | (with_reducible refine bturn ?_ (by with_reducible assumption) ?_) | go_size))⟩
end Go.Proofs.YtkkeplmaphcblaaGreatDoor

namespace Go.Proofs.YtkkeplmaphcblaaGreatDoor
open Go.Lib

/-- n in so many digits. -/
def pd : Nat → Nat → List UInt8
  | 0, _ => []
  | k + 1, n => pd k (n / 10) ++ [UInt8.ofNat (48 + n % 10)]
theorem pd_length : ∀ (k n : Nat), (pd k n).length = k
  | 0, _ => rfl
  | k + 1, n => by simp [pd, pd_length k]
theorem pd_zero : ∀ k : Nat, pd k 0 = List.replicate k 48
  | 0 => rfl
  | k + 1 => by
    rw [pd, Nat.zero_div, pd_zero k, Nat.zero_mod, List.replicate_succ']
    rfl
theorem pad_pd : ∀ (k n : Nat), 0 < k → n < 10 ^ k → nDigits n ≤ k ∧ List.replicate (k - nDigits n) 48 ++ decDigits n = pd k n
  | 0, _, h, _ => by omega
  | k + 1, n, _, hn => by
    by_cases h : n < 10
    · rw [nDigits_small h, decDigits_one h, Nat.add_sub_cancel, pd, Nat.div_eq_of_lt h, pd_zero, Nat.mod_eq_of_lt h]
      exact ⟨by omega, rfl⟩
    · have hk : 0 < k := by
        apply Nat.pos_of_ne_zero
        rintro rfl
        simp at hn
        omega
      have hn2 : n / 10 < 10 ^ k := by rw [Nat.pow_succ] at hn; omega
      obtain ⟨h1, h2⟩ := pad_pd k (n / 10) hk hn2
      rw [nDigits_big h, decDigits, dif_neg h, pd, ← h2, ← List.append_assoc, Nat.add_sub_add_right]
      exact ⟨by omega, rfl⟩

/-- A row of digits. -/
def allDig (l : List UInt8) : Bool := l.all fun b => decide (48 ≤ b.toNat ∧ b.toNat ≤ 57)
theorem dig_ofNat {d : Nat} (h : d < 10) : (UInt8.ofNat (48 + d)).toNat = 48 + d := by simp [UInt8.toNat_ofNat']; omega
theorem allDig_pd : ∀ (k n : Nat), allDig (pd k n) = true
  | 0, _ => rfl
  | k + 1, n => by
    have h := allDig_pd k (n / 10)
    unfold allDig at h ⊢
    rw [pd, List.all_append, h]
    have := dig_ofNat (d := n % 10) (by omega)
    simp [this]
    omega
theorem allDig_no45 {l : List UInt8} (h : allDig l = true) : ∀ b ∈ l, b ≠ 45 := by
  intro b hb e
  subst e
  have := List.all_eq_true.1 h _ hb
  revert this
  decide
theorem decFrom_append : ∀ (l r : List UInt8) (a n : Nat), decFrom a l = some n → decFrom a (l ++ r) = decFrom n r
  | [], r, a, n, h => by cases h; rfl
  | b :: l, r, a, n, h => by
    rw [List.cons_append, decFrom]
    rw [decFrom] at h
    cases hd : digitVal b with
    | none => rw [hd] at h; cases h
    | some d => rw [hd] at h; exact decFrom_append l r _ n h
theorem decFrom_pd : ∀ (k n : Nat), n < 10 ^ k → decFrom 0 (pd k n) = some n
  | 0, n, h => by
    simp at h
    subst h
    rfl
  | k + 1, n, h => by
    rw [pd, decFrom_append _ _ _ _ (decFrom_pd k (n / 10) (by rw [Nat.pow_succ] at h; omega)), decFrom, digitVal, if_pos (by rw [dig_ofNat (by omega)]; omega), dig_ofNat (by omega)]
    simp only [decFrom]
    congr 1
    omega
theorem atoi_digits {l : List UInt8} {n : Nat} (hne : l ≠ []) (hd : allDig l = true) (h : decFrom 0 l = some n) : atoi l = some (n : Int) := by
  cases l with
  | nil => exact absurd rfl hne
  | cons b r =>
    have hb := List.all_eq_true.1 hd b (by simp)
    simp only [decide_eq_true_eq] at hb
    have h1 : (b == 45) = false := by
      rw [beq_eq_false_iff_ne]; rintro rfl; revert hb; decide
    have h2 : (b == 43) = false := by
      rw [beq_eq_false_iff_ne]; rintro rfl; revert hb; decide
    rw [atoi, h1, h2]
    simp only [Bool.false_eq_true, if_false]
    unfold decNat
    simp [h]

/-- What Trim leaves of digits alone. -/
theorem in_cutset (b : UInt8) : cutset.data.toList.contains b = decide (48 ≤ b.toNat ∧ b.toNat ≤ 57) := by
  have h : ∀ n : Fin 256, cutset.data.toList.contains (UInt8.ofNat n.val) = decide (48 ≤ (UInt8.ofNat n.val).toNat ∧ (UInt8.ofNat n.val).toNat ≤ 57) := by decide +kernel
  have := h ⟨b.toNat, b.toNat_lt⟩
  simpa using this
theorem dropWhile_nil {p : UInt8 → Bool} : ∀ (l : List UInt8), (l.dropWhile p).isEmpty = l.all p
  | [] => rfl
  | b :: l => by
    rw [List.dropWhile_cons, List.all_cons]
    cases p b with
    | true => simpa using dropWhile_nil l
    | false => simp
theorem dropWhile_idem {p : UInt8 → Bool} (l : List UInt8) (h : l.all p = true) : l.dropWhile p = [] := by
  have := dropWhile_nil (p := p) l
  rw [h] at this
  exact List.isEmpty_iff.1 this
theorem trim_digits (l : List UInt8) : (trimS l cutset.data.toList).isEmpty = allDig l := by
  have hp : (fun b => cutset.data.toList.contains b) = fun b : UInt8 => decide (48 ≤ b.toNat ∧ b.toNat ≤ 57) := funext in_cutset
  unfold trimS trimLeftS trimRightS allDig
  rw [hp, dropWhile_nil]
  by_cases h : (l.all fun b => decide (48 ≤ b.toNat ∧ b.toNat ≤ 57)) = true
  · rw [h, dropWhile_idem l.reverse (by rw [List.all_reverse]; exact h)]
    rfl
  · rw [Bool.eq_false_iff.2 h, Bool.eq_false_iff]
    intro h2
    rw [List.all_reverse] at h2
    apply h
    have h3 : (l.reverse.dropWhile fun b => decide (48 ≤ b.toNat ∧ b.toNat ≤ 57)) = [] := by
      cases hc : (l.reverse.dropWhile fun b => decide (48 ≤ b.toNat ∧ b.toNat ≤ 57)) with
      | nil => rfl
      | cons a t =>
        have h4 := List.head?_dropWhile_not (fun b : UInt8 => decide (48 ≤ b.toNat ∧ b.toNat ≤ 57)) l.reverse
        rw [hc] at h4 h2
        simp only [List.head?_cons] at h4
        rw [List.all_cons] at h2
        simp only [Bool.and_eq_true] at h2
        rw [h2.1] at h4
        simp at h4
    have h5 := dropWhile_nil (p := fun b : UInt8 => decide (48 ≤ b.toNat ∧ b.toNat ≤ 57)) l.reverse
    rw [h3, List.all_reverse] at h5
    exact h5.symm

theorem pd_cons : ∀ (k n : Nat), pd (k + 1) n = UInt8.ofNat (48 + n / 10 ^ k % 10) :: pd k n
  | 0, n => by simp [pd]
  | k + 1, n => by
    rw [pd, pd_cons k (n / 10), List.cons_append, Nat.div_div_eq_div_mul, ← Nat.pow_succ']
    rfl

theorem pd_add (a b n : Nat) : pd (a + b) n = pd a (n / 10 ^ b) ++ pd b n := by
  induction b generalizing n with
  | zero => simp [pd]
  | succ b ih =>
    rw [← Nat.add_assoc, pd, ih (n / 10), pd, ← List.append_assoc, Nat.div_div_eq_div_mul, ← Nat.pow_succ']
theorem dec_pd (n : Nat) : decDigits n = pd (nDigits n) n := by
  have h := (pad_pd (nDigits n) n (nDigits_pos n) (lt_pow_nDigits n)).2
  rw [Nat.sub_self] at h
  exact h
theorem nDigits_le {n k : Nat} (hk : 0 < k) (h : n < 10 ^ k) : nDigits n ≤ k := (pad_pd k n hk h).1
/-- A number's text without its sign. -/
def textU (N sc : Nat) : List UInt8 := if sc = 0 then decDigits N else decDigits (N / 10 ^ sc) ++ 46 :: pd sc N
def textS (minus : Bool) (N sc : Nat) : List UInt8 := if minus then 45 :: textU N sc else textU N sc
theorem nDigits_div {N sc : Nat} : nDigits (N / 10 ^ sc) + sc = max (nDigits N) (sc + 1) := by
  induction sc generalizing N with
  | zero => simp; have := nDigits_pos N; omega
  | succ k ih =>
    by_cases h : N < 10
    · have : N / 10 ^ (k + 1) = 0 := Nat.div_eq_of_lt (Nat.lt_of_lt_of_le h (by rw [Nat.pow_succ]; have : 0 < 10 ^ k := Nat.pow_pos (by decide); omega))
      rw [this, nDigits_small h, nDigits_small (by decide)]
      omega
    · have e : N / 10 ^ (k + 1) = N / 10 / 10 ^ k := by rw [Nat.div_div_eq_div_mul, ← Nat.pow_succ']
      rw [e, nDigits_big h]
      have := ih (N := N / 10)
      omega
/-- How the program cuts the digits at the point. -/
theorem cut_text {N sc : Nat} (hs : 0 < sc) : ((List.replicate (sc + 1 - nDigits N) 48 ++ decDigits N).take (max (nDigits N) (sc + 1) - sc) ++ [46]) ++ (List.replicate (sc + 1 - nDigits N) 48 ++ decDigits N).drop (max (nDigits N) (sc + 1) - sc) = textU N sc := by
  have hM : N < 10 ^ max (nDigits N) (sc + 1) := Nat.lt_of_lt_of_le (lt_pow_nDigits N) (Nat.pow_le_pow_right (by decide) (Nat.le_max_left _ _))
  have h1 := (pad_pd (max (nDigits N) (sc + 1)) N (by omega) hM).2
  have e1 : max (nDigits N) (sc + 1) - nDigits N = sc + 1 - nDigits N := by omega
  rw [e1] at h1
  have h2 := nDigits_div (N := N) (sc := sc)
  have e2 : max (nDigits N) (sc + 1) - sc = nDigits (N / 10 ^ sc) := by omega
  rw [h1, e2, ← h2, pd_add]
  rw [List.take_append_of_le_length (by rw [pd_length]; exact Nat.le_refl _), List.take_of_length_le (by rw [pd_length]; exact Nat.le_refl _), List.drop_append_of_le_length (by rw [pd_length]; exact Nat.le_refl _), List.drop_of_length_le (by rw [pd_length]; exact Nat.le_refl _)]
  unfold textU
  rw [if_neg (by omega), ← dec_pd]
  simp
end Go.Proofs.YtkkeplmaphcblaaGreatDoor

namespace Go.Proofs.YtkkeplmaphcblaaGreatDoor

/-- The digit of X at place j, the lowest first. -/
def dig (X j : Nat) : Nat := X / 10 ^ j % 10
theorem dig_lt (X j : Nat) : dig X j < 10 := Nat.mod_lt _ (by decide)
theorem t10 (i : Nat) : 0 < 10 ^ i := Nat.pow_pos (by decide)
theorem dig_div (X k j : Nat) : dig (X / 10 ^ k) j = dig X (j + k) := by
  unfold dig; rw [Nat.div_div_eq_div_mul, ← Nat.pow_add, Nat.add_comm]
theorem div_succ (X i : Nat) : X / 10 ^ (i + 1) = X / 10 ^ i / 10 := by rw [Nat.pow_succ, Nat.div_div_eq_div_mul]
theorem dig_mod_lt {X i j : Nat} (h : j < i) : dig (X % 10 ^ i) j = dig X j := by
  unfold dig
  obtain ⟨k, rfl⟩ : ∃ k, i = j + (k + 1) := ⟨i - j - 1, by omega⟩
  rw [Nat.pow_add, Nat.mod_mul_right_div_self, Nat.pow_succ, Nat.mod_mod_of_dvd _ (Nat.dvd_mul_left 10 _)]
theorem dig_mod_ge {X i j : Nat} (h : i ≤ j) : dig (X % 10 ^ i) j = 0 := by
  unfold dig
  have h1 : X % 10 ^ i < 10 ^ i := Nat.mod_lt _ (t10 i)
  have h2 : 10 ^ i ≤ 10 ^ j := Nat.pow_le_pow_right (by decide) h
  rw [Nat.div_eq_of_lt (by omega)]
theorem dig_lt_pow {X i j : Nat} (hX : X < 10 ^ i) (h : i ≤ j) : dig X j = 0 := by
  rw [← Nat.mod_eq_of_lt hX]; exact dig_mod_ge h
theorem dig_mul_ge {X k j : Nat} (h : k ≤ j) : dig (X * 10 ^ k) j = dig X (j - k) := by
  unfold dig
  obtain ⟨m, rfl⟩ : ∃ m, j = m + k := ⟨j - k, by omega⟩
  rw [Nat.add_sub_cancel, Nat.pow_add, Nat.mul_div_mul_right _ _ (t10 k)]
theorem dig_mul_lt {X k j : Nat} (h : j < k) : dig (X * 10 ^ k) j = 0 := by
  unfold dig
  obtain ⟨m, rfl⟩ : ∃ m, k = m + 1 + j := ⟨k - j - 1, by omega⟩
  rw [Nat.pow_add, ← Nat.mul_assoc, Nat.mul_div_cancel _ (t10 j), Nat.pow_succ, ← Nat.mul_assoc, Nat.mul_mod_left]
theorem dig_zero (j : Nat) : dig 0 j = 0 := by unfold dig; simp
theorem mod_succ (X i : Nat) : X % 10 ^ (i + 1) = X % 10 ^ i + 10 ^ i * dig X i := by
  unfold dig
  rw [Nat.pow_succ, Nat.mod_mul]

/-- Cells that hold the digits of X, so many. -/
def rowA (X n : Nat) : Array Value := ((List.range n).map fun j => Value.int .i64 (dig X j)).toArray
theorem rowA_size (X n : Nat) : (rowA X n).size = n := by simp [rowA]
theorem rowA_get (X : Nat) {n j : Nat} (h : j < n) : (rowA X n)[j]? = some (.int .i64 (dig X j)) := by simp [rowA, h]
theorem rowA_set {X Y n i : Nat} {v : Int} (h1 : i < n → (dig Y i : Int) = v) (h2 : ∀ j, j < n → j ≠ i → dig Y j = dig X j) : (rowA X n).setIfInBounds i (.int .i64 v) = rowA Y n := by
  apply Array.ext_getElem?
  intro j
  rw [Array.getElem?_setIfInBounds]
  by_cases hj : j < n
  · rw [rowA_get _ hj, rowA_get _ hj]
    by_cases e : i = j
    · subst e
      rw [if_pos rfl, if_pos (by rw [rowA_size]; exact hj), h1 hj]
    · rw [if_neg e, h2 j hj (fun h => e h.symm)]
  · rw [Array.getElem?_eq_none (by rw [rowA_size]; omega), Array.getElem?_eq_none (by rw [rowA_size]; omega)]
    by_cases e : i = j
    · subst e
      rw [if_pos rfl, if_neg (by rw [rowA_size]; exact hj)]
    · rw [if_neg e]
/-- The next digit of a sum, a difference, laid from below. -/
theorem rowA_up {X n i : Nat} {v : Int} (h : (dig X i : Int) = v) : (rowA (X % 10 ^ i) n).setIfInBounds i (.int .i64 v) = rowA (X % 10 ^ (i + 1)) n := by
  refine rowA_set (fun _ => by rw [dig_mod_lt (by omega)]; exact h) fun j _ hne => ?_
  by_cases hj : j < i
  · rw [dig_mod_lt (by omega), dig_mod_lt hj]
  · rw [dig_mod_ge (by omega), dig_mod_ge (by omega)]
/-- The next digit, laid from above. -/
theorem rowA_down {X n i : Nat} {v : Int} (h : (dig X i : Int) = v) : (rowA (X / 10 ^ (i + 1) * 10 ^ (i + 1)) n).setIfInBounds i (.int .i64 v) = rowA (X / 10 ^ i * 10 ^ i) n := by
  refine rowA_set (fun _ => by rw [dig_mul_ge (Nat.le_refl _), dig_div, Nat.sub_self, Nat.zero_add]; exact h) fun j _ hne => ?_
  by_cases hj : j < i
  · rw [dig_mul_lt hj, dig_mul_lt (by omega)]
  · rw [dig_mul_ge (by omega), dig_mul_ge (by omega), dig_div, dig_div]
    congr 1
    omega
/-- The next digit of a row that lies k places higher. -/
theorem rowA_high {X n i k : Nat} {v : Int} (h : (dig X i : Int) = v) : (rowA (X % 10 ^ i * 10 ^ k) n).setIfInBounds (i + k) (.int .i64 v) = rowA (X % 10 ^ (i + 1) * 10 ^ k) n := by
  refine rowA_set (fun _ => by rw [dig_mul_ge (by omega), Nat.add_sub_cancel, dig_mod_lt (by omega)]; exact h) fun j _ hne => ?_
  by_cases hj : j < k
  · rw [dig_mul_lt hj, dig_mul_lt hj]
  · rw [dig_mul_ge (by omega), dig_mul_ge (by omega)]
    by_cases hi : j - k < i
    · rw [dig_mod_lt hi, dig_mod_lt (by omega)]
    · rw [dig_mod_ge (by omega), dig_mod_ge (by omega)]
theorem rowA_zero (n : Nat) : Array.replicate n (Value.int .i64 0) = rowA 0 n := by
  apply Array.ext_getElem?
  intro j
  by_cases hj : j < n
  · rw [rowA_get _ hj, dig_zero]; simp [hj]
  · rw [Array.getElem?_eq_none (by simp; omega), Array.getElem?_eq_none (by rw [rowA_size]; omega)]

theorem plus_step {a b c i : Nat} (h : (a + b) / 10 ^ i = a / 10 ^ i + b / 10 ^ i + c) :
    dig (a + b) i = (dig a i + dig b i + c) % 10 ∧ (a + b) / 10 ^ (i + 1) = a / 10 ^ (i + 1) + b / 10 ^ (i + 1) + (dig a i + dig b i + c) / 10 := by
  simp only [div_succ]
  unfold dig
  rw [h]
  omega
theorem less_step {a b i : Nat} (h : a / 10 ^ (i + 1) = b / 10 ^ (i + 1)) (hd : ¬ dig a i = dig b i) : (dig a i < dig b i) = (a < b) := by
  have ha : a / 10 ^ i = a / 10 ^ (i + 1) * 10 + dig a i := by rw [div_succ]; unfold dig; omega
  have hb : b / 10 ^ i = b / 10 ^ (i + 1) * 10 + dig b i := by rw [div_succ]; unfold dig; omega
  apply propext
  constructor
  · intro hlt
    have : a / 10 ^ i < b / 10 ^ i := by omega
    apply Nat.lt_of_not_le
    intro hle
    have := Nat.div_le_div_right (c := 10 ^ i) hle
    omega
  · intro hlt
    have := Nat.div_le_div_right (c := 10 ^ i) (Nat.le_of_lt hlt)
    omega
theorem less_same {a b i : Nat} (h : a / 10 ^ (i + 1) = b / 10 ^ (i + 1)) (hd : dig a i = dig b i) : a / 10 ^ i = b / 10 ^ i := by
  have ha : a / 10 ^ i = a / 10 ^ (i + 1) * 10 + dig a i := by rw [div_succ]; unfold dig; omega
  have hb : b / 10 ^ i = b / 10 ^ (i + 1) * 10 + dig b i := by rw [div_succ]; unfold dig; omega
  omega

/-- X over ten to the power k, rounded to the nearest, of two the even one. -/
def even10 (X k : Nat) : Nat := X / 10 ^ k + if 10 ^ k < 2 * (X % 10 ^ k) ∨ 2 * (X % 10 ^ k) = 10 ^ k ∧ X / 10 ^ k % 2 = 1 then 1 else 0
theorem even10_zero (X : Nat) : even10 X 0 = X := by unfold even10; simp [Nat.mod_one]
/-- The reference's test: the digit behind the last one, what is left behind it, and whether the last one is odd. -/
theorem even10_digits (X k : Nat) : (10 ^ (k + 1) < 2 * (X % 10 ^ (k + 1)) ∨ 2 * (X % 10 ^ (k + 1)) = 10 ^ (k + 1) ∧ X / 10 ^ (k + 1) % 2 = 1) ↔ (5 < dig X k ∨ dig X k = 5 ∧ (¬ X % 10 ^ k = 0 ∨ dig X (k + 1) % 2 = 1)) := by
  have hm := mod_succ X k
  have hd := dig_lt X k
  have hr : X % 10 ^ k < 10 ^ k := Nat.mod_lt _ (t10 k)
  have ho : dig X (k + 1) % 2 = X / 10 ^ (k + 1) % 2 := by unfold dig; omega
  rw [ho]
  generalize X / 10 ^ (k + 1) % 2 = o at *
  rw [hm, Nat.pow_succ]
  generalize X % 10 ^ k = r at *
  generalize 10 ^ k = P at *
  generalize dig X k = d at *
  match d, hd with
  | 0, _ => omega
  | 1, _ => omega
  | 2, _ => omega
  | 3, _ => omega
  | 4, _ => omega
  | 5, _ => omega
  | 6, _ => omega
  | 7, _ => omega
  | 8, _ => omega
  | 9, _ => omega
  | n + 10, h => omega
end Go.Proofs.YtkkeplmaphcblaaGreatDoor

namespace Go.Proofs.YtkkeplmaphcblaaGreatDoor
open Go.RowKit

theorem rsize_any (n : Int) (h0 : -9223372036854775807 ≤ n) (h1 : n ≤ 9223372036854775807) (w : World) :
    Calls Tryz.prog 197 #[.int .i64 n] w fun e w' => e = .returned (.int .i64 (mag n)) ∧ w = w' := by
  unfold mag
  by_cases hneg : n < 0
  · rw [if_pos hneg]
    go_enter Tryz.func197, Tryz.ntmps197
    go_wp2
    go_ret
    exact ⟨rfl, rfl⟩
  · rw [if_neg hneg]
    go_enter Tryz.func197, Tryz.ntmps197
    go_wp2
    go_ret
    exact ⟨rfl, rfl⟩

/-- What is left of n over ten to the k, signs and all. -/
theorem neg_div (m : Int) (h : 0 ≤ m) : (-m).tdiv 10 = -(m / 10) := by rw [Int.neg_tdiv, Int.tdiv_eq_ediv_of_nonneg h]
theorem neg_mod (m : Int) (h : 0 ≤ m) : (-m).tmod 10 = -(m % 10) := by rw [Int.neg_tmod, Int.tmod_eq_emod_of_nonneg h]

set_option maxHeartbeats 1000000 in
theorem rmake_any (n s : Int) (hn0 : -9223372036854775808 ≤ n) (hn1 : n ≤ 9223372036854775807) (hs0 : -9223372036854775808 ≤ s) (hs1 : s ≤ 9223372036854775807) (w : World) :
    Calls Tryz.prog 115 #[.int .i64 n, .int .i64 s] w fun e w' => e = .returned (.tuple #[.agg #[.int .i64 (makeS n s).n, .int .i64 (makeS n s).s], .int .i64 (makeS n s).e]) ∧ Below w.heap.size w w' := by
  have hb1 := Blk.new w 23 #[.int .i64 0, .int .i64 0]
  by_cases hbad : s < 0 ∨ 6 < s ∨ 999999999999 < n ∨ n < -999999999999
  · have HM := Lib.hid (make_bad hbad)
    by_cases g1 : s < 0
    · clear hbad
      go_enter Tryz.func115, Tryz.ntmps115
      go_wp2
      refine ret_blk2 rfl hb1 rfl Tryz.underlying23 rfl (by kernel_rfl) rfl ?_
      exact ⟨by rw [HM.out]; rfl, by (repeat' (first | (with_reducible exact Below.refl _ _) | (with_reducible assumption) | (with_reducible refine balloc ?_ _) | (with_reducible refine Below.drew ?_) | (with_reducible refine bset ?_ ?_ _) | (with_reducible refine bstep ?_ (by with_reducible assumption)) | (with_reducible refine bturn ?_ (by with_reducible assumption) ?_) | go_size))⟩
    by_cases g2 : 6 < s
    · clear hbad
      go_enter Tryz.func115, Tryz.ntmps115
      go_wp2
      refine ret_blk2 rfl hb1 rfl Tryz.underlying23 rfl (by kernel_rfl) rfl ?_
      exact ⟨by rw [HM.out]; rfl, by (repeat' (first | (with_reducible exact Below.refl _ _) | (with_reducible assumption) | (with_reducible refine balloc ?_ _) | (with_reducible refine Below.drew ?_) | (with_reducible refine bset ?_ ?_ _) | (with_reducible refine bstep ?_ (by with_reducible assumption)) | (with_reducible refine bturn ?_ (by with_reducible assumption) ?_) | go_size))⟩
    by_cases g3 : 999999999999 < n
    · clear hbad
      go_enter Tryz.func115, Tryz.ntmps115
      go_wp2
      refine ret_blk2 rfl hb1 rfl Tryz.underlying23 rfl (by kernel_rfl) rfl ?_
      exact ⟨by rw [HM.out]; rfl, by (repeat' (first | (with_reducible exact Below.refl _ _) | (with_reducible assumption) | (with_reducible refine balloc ?_ _) | (with_reducible refine Below.drew ?_) | (with_reducible refine bset ?_ ?_ _) | (with_reducible refine bstep ?_ (by with_reducible assumption)) | (with_reducible refine bturn ?_ (by with_reducible assumption) ?_) | go_size))⟩
    have g4 : n < -999999999999 := by omega
    clear hbad
    go_enter Tryz.func115, Tryz.ntmps115
    go_wp2
    refine ret_blk2 rfl hb1 rfl Tryz.underlying23 rfl (by kernel_rfl) rfl ?_
    exact ⟨by rw [HM.out]; rfl, by (repeat' (first | (with_reducible exact Below.refl _ _) | (with_reducible assumption) | (with_reducible refine balloc ?_ _) | (with_reducible refine Below.drew ?_) | (with_reducible refine bset ?_ ?_ _) | (with_reducible refine bstep ?_ (by with_reducible assumption)) | (with_reducible refine bturn ?_ (by with_reducible assumption) ?_) | go_size))⟩
  · have g : 0 ≤ s ∧ s ≤ 6 ∧ -999999999999 ≤ n ∧ n ≤ 999999999999 := by omega
    have hmg := mag_bd g.2.2.1 g.2.2.2
    have hbd := short_bd s.toNat (mag n) (mag_nn n)
    have HM : makeS n s = ⟨if decide (n < 0) = true then -(short s.toNat (mag n)).1 else (short s.toNat (mag n)).1, (short s.toNat (mag n)).2, 0⟩ := by
      rw [make_ok g]; unfold decS; rw [big_def, if_neg (by omega)]
    replace HM := Lib.hid HM
    obtain ⟨g1, g2, g3, g4⟩ := g
    clear hbad hn0 hn1 hs0 hs1 hbd
    by_cases hneg : n < 0
    · have hm2 : mag n = -n := by unfold mag; rw [if_pos hneg]
      have HM2 := Lib.hid hm2
      clear hm2
      go_enter Tryz.func115, Tryz.ntmps115
      go_wp2
      go_loop [0, 1] (fun v0 v1 => ∃ (m : Int) (k : Nat), v0 = .int .i64 (-m) ∧ v1 = .int .i64 k ∧ 0 ≤ m ∧ m ≤ 999999999999 ∧ k ≤ 6 ∧ short s.toNat (mag n) = short k m) (fun _ v1 => (intOf v1).toNat)
      case atStart => exact ⟨mag n, s.toNat, by rw [HM2.out, Int.neg_neg], by rw [Int.toNat_of_nonneg g1], mag_nn n, hmg, by omega, rfl⟩
      case round =>
        obtain ⟨m, k, rfl, rfl, hm0, hm1, hk, hsh⟩ := hrel
        have HS := Lib.hid hsh
        clear hsh
        have e1 := neg_div m hm0
        have e2 := neg_mod m hm0
        by_cases hz : k = 0
        · subst hz
          go_wp2
          refine ret_blk2 rfl (Blk.new w _ _) rfl Tryz.underlying23 rfl (by kernel_rfl) rfl ?_
          exact ⟨by rw [HM.out, if_pos (by simp; omega), HS.out, short_stop (.inl rfl)]; rfl, by (repeat' (first | (with_reducible exact Below.refl _ _) | (with_reducible assumption) | (with_reducible refine balloc ?_ _) | (with_reducible refine Below.drew ?_) | (with_reducible refine bset ?_ ?_ _) | (with_reducible refine bstep ?_ (by with_reducible assumption)) | (with_reducible refine bturn ?_ (by with_reducible assumption) ?_) | go_size))⟩
        · by_cases hd : m % 10 = 0
          · have hd' : (-(m % 10) == 0) = true := by simp [hd]
            go_wp2
            go_round
            case rel => exact ⟨m / 10, k - 1, rfl, by rw [show (((k - 1 : Nat) : Int)) = (k : Int) - 1 from by omega], by omega, by omega, by omega, by
              rw [HS.out]
              obtain ⟨j, rfl⟩ : ∃ j, k = j + 1 := ⟨k - 1, by omega⟩
              exact short_go hd⟩
            case measure => simp [intOf]; omega
          · have hd' : (-(m % 10) == 0) = false := by simp; omega
            go_wp2
            refine ret_blk2 rfl (Blk.new w _ _) rfl Tryz.underlying23 rfl (by kernel_rfl) rfl ?_
            exact ⟨by rw [HM.out, if_pos (by simp; omega), HS.out, short_stop (.inr hd)]; rfl, by (repeat' (first | (with_reducible exact Below.refl _ _) | (with_reducible assumption) | (with_reducible refine balloc ?_ _) | (with_reducible refine Below.drew ?_) | (with_reducible refine bset ?_ ?_ _) | (with_reducible refine bstep ?_ (by with_reducible assumption)) | (with_reducible refine bturn ?_ (by with_reducible assumption) ?_) | go_size))⟩
    · have hm2 : mag n = n := by unfold mag; rw [if_neg hneg]
      have HM2 := Lib.hid hm2
      clear hm2
      go_enter Tryz.func115, Tryz.ntmps115
      go_wp2
      go_loop [0, 1] (fun v0 v1 => ∃ (m : Int) (k : Nat), v0 = .int .i64 m ∧ v1 = .int .i64 k ∧ 0 ≤ m ∧ m ≤ 999999999999 ∧ k ≤ 6 ∧ short s.toNat (mag n) = short k m) (fun _ v1 => (intOf v1).toNat)
      case atStart => exact ⟨mag n, s.toNat, by rw [HM2.out], by rw [Int.toNat_of_nonneg g1], mag_nn n, hmg, by omega, rfl⟩
      case round =>
        obtain ⟨m, k, rfl, rfl, hm0, hm1, hk, hsh⟩ := hrel
        have HS := Lib.hid hsh
        clear hsh
        by_cases hz : k = 0
        · subst hz
          go_wp2
          refine ret_blk2 rfl (Blk.new w _ _) rfl Tryz.underlying23 rfl (by kernel_rfl) rfl ?_
          exact ⟨by rw [HM.out, if_neg (by simp; omega), HS.out, short_stop (.inl rfl)]; rfl, by (repeat' (first | (with_reducible exact Below.refl _ _) | (with_reducible assumption) | (with_reducible refine balloc ?_ _) | (with_reducible refine Below.drew ?_) | (with_reducible refine bset ?_ ?_ _) | (with_reducible refine bstep ?_ (by with_reducible assumption)) | (with_reducible refine bturn ?_ (by with_reducible assumption) ?_) | go_size))⟩
        · by_cases hd : m % 10 = 0
          · have hd' : (m % 10 == 0) = true := by simp [hd]
            go_wp2
            go_round
            case rel => exact ⟨m / 10, k - 1, rfl, by rw [show (((k - 1 : Nat) : Int)) = (k : Int) - 1 from by omega], by omega, by omega, by omega, by
              rw [HS.out]
              obtain ⟨j, rfl⟩ : ∃ j, k = j + 1 := ⟨k - 1, by omega⟩
              exact short_go hd⟩
            case measure => simp [intOf]; omega
          · have hd' : (m % 10 == 0) = false := by simp; omega
            go_wp2
            refine ret_blk2 rfl (Blk.new w _ _) rfl Tryz.underlying23 rfl (by kernel_rfl) rfl ?_
            exact ⟨by rw [HM.out, if_neg (by simp; omega), HS.out, short_stop (.inr hd)]; rfl, by (repeat' (first | (with_reducible exact Below.refl _ _) | (with_reducible assumption) | (with_reducible refine balloc ?_ _) | (with_reducible refine Below.drew ?_) | (with_reducible refine bset ?_ ?_ _) | (with_reducible refine bstep ?_ (by with_reducible assumption)) | (with_reducible refine bturn ?_ (by with_reducible assumption) ?_) | go_size))⟩

set_option maxHeartbeats 1000000 in
theorem rsound_any (n s : Int) (hn0 : -9223372036854775808 ≤ n) (hn1 : n ≤ 9223372036854775807) (hs0 : -9223372036854775808 ≤ s) (hs1 : s ≤ 9223372036854775807) (w : World) :
    Calls Tryz.prog 73 #[.agg #[.int .i64 n, .int .i64 s]] w fun e w' => e = .returned (.bool (soundS n s)) ∧ Below w.heap.size w w' := by
  have HS : Hid (soundS n s = ((makeS n s).e == 0 && ((makeS n s).n == n && (makeS n s).s == s))) := rfl
  have hb0 := Blk.new w 23 #[.int .i64 n, .int .i64 s]
  have HMk := Lib.hid (rmake_any n s hn0 hn1 hs0 hs1)
  generalize makeS n s = r at *
  by_cases he : (r.e == 0) = true
  · by_cases h2 : (r.n == n) = true
    · go_enter Tryz.func73, Tryz.ntmps73
      go_wp2_with fail
      refine (HMk.out _).mono ?_
      rintro e w1 ⟨rfl, hb⟩
      replace hb0 := hb0.step hb
      have hla := hb0.lt; have hlla := lts hla; have qa0 := hb0.cell 0; have qa1 := hb0.cell 1; simp at qa0 qa1; have za0 := hb0.frozen 0; have za1 := hb0.frozen 1; have Hhb0 := Lib.hid hb0; clear hb0
      go_wp2
      go_ret
      exact ⟨by rw [HS.out]; simp [he, h2], by (repeat' (first | (with_reducible exact Below.refl _ _) | (with_reducible assumption) | (with_reducible refine balloc ?_ _) | (with_reducible refine Below.drew ?_) | (with_reducible refine bset ?_ ?_ _) | (with_reducible refine bstep ?_ (by with_reducible assumption)) | (with_reducible refine bturn ?_ (by with_reducible assumption) ?_) | go_size))⟩
    · replace h2 : (r.n == n) = false := by simpa using h2
      go_enter Tryz.func73, Tryz.ntmps73
      go_wp2_with fail
      refine (HMk.out _).mono ?_
      rintro e w1 ⟨rfl, hb⟩
      replace hb0 := hb0.step hb
      have hla := hb0.lt; have hlla := lts hla; have qa0 := hb0.cell 0; have qa1 := hb0.cell 1; simp at qa0 qa1; have za0 := hb0.frozen 0; have za1 := hb0.frozen 1; have Hhb0 := Lib.hid hb0; clear hb0
      go_wp2
      go_ret
      exact ⟨by rw [HS.out]; simp [he, h2], by (repeat' (first | (with_reducible exact Below.refl _ _) | (with_reducible assumption) | (with_reducible refine balloc ?_ _) | (with_reducible refine Below.drew ?_) | (with_reducible refine bset ?_ ?_ _) | (with_reducible refine bstep ?_ (by with_reducible assumption)) | (with_reducible refine bturn ?_ (by with_reducible assumption) ?_) | go_size))⟩
  · replace he : (r.e == 0) = false := by simpa using he
    go_enter Tryz.func73, Tryz.ntmps73
    go_wp2_with fail
    refine (HMk.out _).mono ?_
    rintro e w1 ⟨rfl, hb⟩
    replace hb0 := hb0.step hb
    have hla := hb0.lt; have hlla := lts hla; have qa0 := hb0.cell 0; have qa1 := hb0.cell 1; simp at qa0 qa1; have za0 := hb0.frozen 0; have za1 := hb0.frozen 1; have Hhb0 := Lib.hid hb0; clear hb0
    go_wp2
    go_ret
    exact ⟨by rw [HS.out]; simp [he], by (repeat' (first | (with_reducible exact Below.refl _ _) | (with_reducible assumption) | (with_reducible refine balloc ?_ _) | (with_reducible refine Below.drew ?_) | (with_reducible refine bset ?_ ?_ _) | (with_reducible refine bstep ?_ (by with_reducible assumption)) | (with_reducible refine bturn ?_ (by with_reducible assumption) ?_) | go_size))⟩
end Go.Proofs.YtkkeplmaphcblaaGreatDoor

namespace Go.Proofs.YtkkeplmaphcblaaGreatDoor
open Go.RowKit

theorem made_row (n : Nat) : madeCells #[Value.int .i64 0] n = rowA 0 n := by
  apply Array.ext_getElem?
  intro j
  by_cases hj : j < n
  · rw [rowA_get _ hj, dig_zero]; simp [madeCells, hj, Nat.mod_one]
  · rw [Array.getElem?_eq_none (by simp [madeCells]; omega), Array.getElem?_eq_none (by rw [rowA_size]; omega)]
theorem mk_row (n : Nat) (hn : n ≤ 1000) (w : World) : (Instr.makeSlice 136 (.int .i64 (n : Int)) (.int .i64 (n : Int))).run Tryz.prog w = .ok (.slice (some ⟨w.heap.size, 0, none⟩) n n) (w.alloc (.cells (rowA 0 n) 3)) := by
  rw [← made_row]
  exact run_make_row' (P := Tryz.prog) 136 3 (.int .i64 0) 8 Tryz.underlying136 (by kernel_rfl) rfl .i64 .i64 n (by omega) (by omega) w

/-- A row of digits of X in memory. -/
def Row (w : World) (g o n X : Nat) : Prop := ∀ j, j < n → w.cell? ⟨g, o + j, none⟩ = some (.int .i64 (dig X j))
theorem Row.step {w w' : World} {g o n X : Nat} (h : Row w g o n X) (hb : Below w.heap.size w w') : Row w' g o n X := fun j hj => keep1 hb (h j hj)
theorem Row.of_blk {w : World} {g n X : Nat} {T : TypeId} (h : Blk w g T (rowA X n)) : Row w g 0 n X := fun j hj => by rw [h.cell, Nat.zero_add, rowA_get _ hj]
theorem Row.drop {w : World} {g o n X : Nat} (h : Row w g o n X) (k : Nat) (hk : k ≤ n) : Row w g (o + k) (n - k) (X / 10 ^ k) := fun j hj => by
  rw [Nat.add_assoc, h (k + j) (by omega), dig_div, Nat.add_comm]
theorem rowA_all (X n : Nat) : rowA (X % 10 ^ n) n = rowA X n := by
  apply Array.ext_getElem?
  intro j
  by_cases hj : j < n
  · rw [rowA_get _ hj, rowA_get _ hj, dig_mod_lt hj]
  · rw [Array.getElem?_eq_none (by rw [rowA_size]; omega), Array.getElem?_eq_none (by rw [rowA_size]; omega)]

set_option maxHeartbeats 1000000 in
theorem rdigits_any (n : Nat) (hn : n < 1000000000000) (w : World) :
    Calls Tryz.prog 196 #[.int .i64 (n : Int), .int .i64 12] w fun e w' => e = .returned (.slice (some ⟨w.heap.size, 0, none⟩) 12 12) ∧ Blk w' w.heap.size 3 (rowA n 12) ∧ Below w.heap.size w w' := by
  have hmk : ∀ W, (Instr.makeSlice 136 (.int .i64 12) (.int .i64 12)).run Tryz.prog W = .ok (.slice (some ⟨W.heap.size, 0, none⟩) 12 12) (W.alloc (.cells (rowA 0 12) 3)) := fun W => mk_row 12 (by decide) W
  go_enter Tryz.func196, Tryz.ntmps196
  go_wp2
  go_loopw [0, 6] (fun v i wr => ∃ k m : Nat, k ≤ 12 ∧ i = .int .i64 k ∧ v = .int .i64 m ∧ m = n / 10 ^ k ∧ m < 1000000000000 ∧ Blk wr w.heap.size 3 (rowA (n % 10 ^ k) 12) ∧ Below w.heap.size w wr) (fun _ i _ => 12 - (intOf i).toNat)
  case atStart => exact ⟨0, n, by omega, rfl, rfl, by simp, hn, by rw [Nat.pow_zero, Nat.mod_one]; exact Blk.new _ _ _, by (repeat' (first | (with_reducible exact Below.refl _ _) | (with_reducible assumption) | (with_reducible refine balloc ?_ _) | (with_reducible refine Below.drew ?_) | (with_reducible refine bset ?_ ?_ _) | (with_reducible refine bstep ?_ (by with_reducible assumption)) | (with_reducible refine bturn ?_ (by with_reducible assumption) ?_) | go_size))⟩
  case round =>
    obtain ⟨k, m, hk, rfl, rfl, hm, hm1, hB, hbl⟩ := hrel
    have HM := Lib.hid hm
    clear hm
    by_cases hlt : k < 12
    · have qc := hB.cell k
      rw [rowA_get _ hlt] at qc
      have qz := hB.frozen k
      have hl := hB.lt
      go_wp2
      go_roundw
      case rel => exact ⟨k + 1, m / 10, by omega, by go_num, by go_num, by rw [HM.out, div_succ], by omega, by
        have := hB.set_ k (.int .i64 ((m : Int) % 10))
        rw [rowA_up (by rw [HM.out]; unfold dig; omega)] at this
        exact this, by (repeat' (first | (with_reducible exact Below.refl _ _) | (with_reducible assumption) | (with_reducible refine balloc ?_ _) | (with_reducible refine Below.drew ?_) | (with_reducible refine bset ?_ ?_ _) | (with_reducible refine bstep ?_ (by with_reducible assumption)) | (with_reducible refine bturn ?_ (by with_reducible assumption) ?_) | go_size))⟩
      case measure => simp [intOf]; omega
    · obtain rfl : k = 12 := by omega
      go_wp2
      go_ret
      exact ⟨rfl, by rw [rowA_all] at hB; exact hB, hbl⟩

end Go.Proofs.YtkkeplmaphcblaaGreatDoor

namespace Go.Proofs.YtkkeplmaphcblaaGreatDoor
open Go.RowKit

theorem short_nat (k : Nat) (X : Nat) (h : dig X 0 = 0) : short (k + 1) (X : Int) = short k ((X / 10 : Nat) : Int) := by
  have h2 : X % 10 = 0 := by unfold dig at h; simpa using h
  rw [short_go (by omega)]
  congr 1
theorem short_nat_stop (k : Nat) (X : Nat) (h : k = 0 ∨ ¬ dig X 0 = 0) : short k (X : Int) = ((X : Int), (k : Int)) := by
  refine short_stop ?_
  rcases h with h | h
  · exact .inl h
  · refine .inr fun h2 => h ?_
    unfold dig
    simp
    omega
theorem rowA_one {up n : Nat} (h : up ≤ 1) : (rowA 0 n).setIfInBounds 0 (.int .i64 (up : Int)) = rowA up n := by
  refine rowA_set (fun _ => by unfold dig; simp; omega) fun j _ hne => ?_
  rw [dig_zero]
  exact dig_lt_pow (i := 1) (by omega) (by omega)
theorem div_step (M p : Nat) : M / 10 ^ p = M / 10 ^ (p + 1) * 10 + dig M p := by rw [div_succ]; unfold dig; omega
theorem dig_shift (Y j : Nat) : dig (Y / 10 ^ j) 0 = dig Y j := by rw [dig_div, Nat.zero_add]
theorem decS_big {K : Nat} {Y : Int} {b : Bool} {q : Int × Int} (h : short K Y = q) (hb : big < q.1) : decS K Y b = ⟨0, 0, 3⟩ := by unfold decS; rw [h, if_pos hb]
theorem decS_ok {K : Nat} {Y : Int} {b : Bool} {q : Int × Int} (h : short K Y = q) (hb : ¬ big < q.1) : decS K Y b = ⟨if b then -q.1 else q.1, q.2, 0⟩ := by unfold decS; rw [h, if_neg hb]

end Go.Proofs.YtkkeplmaphcblaaGreatDoor

namespace Go.Proofs.YtkkeplmaphcblaaGreatDoor
open Go.RowKit
open Go.Lib hiding intOf
attribute [local go_sem high] run_dec_eql run_dec_neq

def isD (b : UInt8) : Bool := decide (48 ≤ b.toNat ∧ b.toNat ≤ 57)
def byteAt (s : ByteArray) (j : Nat) : UInt8 := s.data.toList.getD j 0
theorem byteAt_eq (s : ByteArray) (j : Nat) (h : j < s.size) : byteAt s j = s[j] := by
  unfold byteAt
  rw [List.getD_eq_getElem?_getD, Lib.data_getElem? s j h]
  rfl
/-- Byte j is the point, or a digit. -/
def okJ (r : ByteArray) (W : Nat) (dot : Bool) (j : Nat) : Prop := dot = true ∧ j = W ∨ isD (byteAt r j) = true
def dotAt (W : Nat) (dot : Bool) (i : Nat) : Int := if dot = true ∧ W < i then (W : Int) else -1

/-- What the reference's answer hangs on. -/
structure RP (s r wh pa pt : ByteArray) (minus dot : Bool) (u : Nat) (R : Res) : Prop where
  hs : s.size ≤ 4294967281
  m1 : minus = true → 0 < s.size ∧ byteAt s 0 = 45 ∧ s.extract 1 s.size = r
  m0 : minus = false → s = r ∧ (s.size = 0 ∨ byteAt s 0 ≠ 45)
  w1 : wh.size ≤ r.size
  w2 : dot = true → wh.size < r.size ∧ byteAt r wh.size = 46 ∧ r.extract 0 wh.size = wh ∧ r.extract (wh.size + 1) r.size = pa
  w3 : dot = false → r = wh ∧ pa = ⟨#[]⟩
  w4 : ∀ j, j < wh.size → byteAt r j ≠ 46
  p1 : pa.size ≤ 4294967281
  p2 : Lib.trimRightB pa.data.toList 48 = pt.data.toList
  r5 : ¬ (∀ j, j < r.size → okJ r wh.size dot j) → R = ⟨0, 0, 5⟩
  r6 : dot = true → pa.size = 0 → R = ⟨0, 0, 5⟩
  r7 : wh.size = 0 → R = ⟨0, 0, 5⟩
  r8 : 1 < wh.size → byteAt wh 0 = 48 → R = ⟨0, 0, 5⟩
  r9 : (∀ j, j < r.size → okJ r wh.size dot j) → ¬ (dot = true ∧ pa.size = 0) → wh.size ≠ 0 → ¬ (1 < wh.size ∧ byteAt wh 0 = 48) → (6 < pt.size ∨ 12 < wh.size) → R = ⟨0, 0, 3⟩
  ok : (∀ j, j < r.size → okJ r wh.size dot j) → ¬ (dot = true ∧ pa.size = 0) → wh.size ≠ 0 → ¬ (1 < wh.size ∧ byteAt wh 0 = 48) → pt.size ≤ 6 → wh.size ≤ 12 → R = decS pt.size (u : Int) minus ∧ u < 10 ^ 40 ∧ u < 10 ^ (wh ++ pt).size ∧ ∀ i, i < (wh ++ pt).size → isD (byteAt (wh ++ pt) i) = true ∧ (byteAt (wh ++ pt) i).toNat - 48 = dig u ((wh ++ pt).size - 1 - i)

theorem trim_step {P : List UInt8} (h : P.getLast? = some 48) : Lib.trimRightB P.dropLast 48 = Lib.trimRightB P 48 := by
  rw [List.getLast?_eq_some_iff] at h
  obtain ⟨l, rfl⟩ := h
  unfold Lib.trimRightB
  simp
theorem trim_stop {P : List UInt8} (h : P.getLast? ≠ some 48) : Lib.trimRightB P 48 = P := by
  cases hP : P.getLast? with
  | none => rw [List.getLast?_eq_none_iff] at hP; subst hP; rfl
  | some c =>
    have hc : c ≠ 48 := fun e => h (by rw [hP, e])
    rw [List.getLast?_eq_some_iff] at hP
    obtain ⟨l, rfl⟩ := hP
    unfold Lib.trimRightB
    have : (c == 48) = false := by rw [beq_eq_false_iff_ne]; exact hc
    simp [this]
theorem last_byte {P : ByteArray} (h : 0 < P.size) : P.data.toList.getLast? = some (P[P.size - 1]'(by omega)) := by
  rw [List.getLast?_eq_getElem?]
  have : P.data.toList.length = P.size := by simp
  rw [this]
  exact Lib.data_getElem? P (P.size - 1) (by omega)
theorem drop_last {P : ByteArray} : (P.extract 0 (P.size - 1)).data.toList = P.data.toList.dropLast := by
  rw [Lib.extract_from_zero, List.dropLast_eq_take]
  simp

end Go.Proofs.YtkkeplmaphcblaaGreatDoor
