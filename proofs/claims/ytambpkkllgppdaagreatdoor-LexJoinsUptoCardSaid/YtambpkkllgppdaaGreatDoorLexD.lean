/- The walks of chars.letter, chars.Name, slices.Contains of texts, lex.Word. The walks of slices.Contains of texts, lex.words, lex.Word. The walk of lex.one at a token that stands. The walk of lex.Join at tokens that stand. -/
import Derived.Test.YtambpkkllgppdaaGreatDoorLexC
import Derived.Laws.IdiomStrings
import Derived.Deep.LoopGhost
import Derived.Lib.Builder
import Derived.Deep.QuietTactic
import Derived.BigQuiet
import Derived.Test.YtambpkkllgppdaaGreatDoorLexA
namespace Go.Proofs.YtambpkkllgppdaaGreatDoor
open Go.RowKit

def byteW (s : ByteArray) (j : Nat) : UInt8 := s.data.toList.getD j 0
theorem byteW_eq (s : ByteArray) (j : Nat) (h : j < s.size) : byteW s j = s[j] := by
  have h2 : j < s.data.toList.length := by rw [size_list]; exact h
  unfold byteW
  rw [List.getD_eq_getElem?_getD, List.getElem?_eq_getElem h2]
  rfl
def letB (n : Nat) : Bool := decide (97 ≤ n ∧ n ≤ 122 ∨ 65 ≤ n ∧ n ≤ 90 ∨ n = 95)
set_option maxHeartbeats 1000000 in
theorem letter_any (n : Nat) (b : Bool) (hb : letB n = b) (w : World) : Calls Tryz.prog 42 #[.int .u8 (n : Int)] w fun e w' => e = .returned (.bool b) ∧ w = w' := by
  subst hb
  unfold letB
  by_cases g1 : 97 ≤ n ∧ n ≤ 122
  · rw [decide_eq_true (Or.inl g1)]
    have k1 : (97 : Int) ≤ (n : Int) := by omega
    have k2 : (n : Int) ≤ 122 := by omega
    clear g1
    go_enter Tryz.func42, Tryz.ntmps42
    go_wp2
    go_ret
    exact ⟨rfl, rfl⟩
  by_cases g2 : 65 ≤ n ∧ n ≤ 90
  · rw [decide_eq_true (Or.inr (Or.inl g2))]
    have k1 : ¬ (97 : Int) ≤ (n : Int) := by omega
    have k2 : (65 : Int) ≤ (n : Int) := by omega
    have k3 : (n : Int) ≤ 90 := by omega
    clear g1 g2
    go_enter Tryz.func42, Tryz.ntmps42
    go_wp2
    go_ret
    exact ⟨rfl, rfl⟩
  by_cases g3 : n = 95
  · subst g3
    go_enter Tryz.func42, Tryz.ntmps42
    go_wp2
    go_ret
    exact ⟨rfl, rfl⟩
  · rw [decide_eq_false (by rintro (h | h | h); · exact g1 h
                            · exact g2 h
                            · exact g3 h)]
    have e1 : (((n : Nat) : Int) == 95) = false := by simp; omega
    by_cases k1 : 97 ≤ n
    · have k2 : (97 : Int) ≤ (n : Int) := by omega
      have k3 : ¬ (n : Int) ≤ 122 := by omega
      have k4 : (65 : Int) ≤ (n : Int) := by omega
      have k5 : ¬ (n : Int) ≤ 90 := by omega
      clear g1 g2 g3 k1
      go_enter Tryz.func42, Tryz.ntmps42
      go_wp2
      go_ret
      exact ⟨rfl, rfl⟩
    · have k2 : ¬ (97 : Int) ≤ (n : Int) := by omega
      by_cases k3 : 65 ≤ n
      · have k4 : (65 : Int) ≤ (n : Int) := by omega
        have k5 : ¬ (n : Int) ≤ 90 := by omega
        clear g1 g2 g3 k1 k3
        go_enter Tryz.func42, Tryz.ntmps42
        go_wp2
        go_ret
        exact ⟨rfl, rfl⟩
      · have k4 : ¬ (65 : Int) ≤ (n : Int) := by omega
        clear g1 g2 g3 k1 k3
        go_enter Tryz.func42, Tryz.ntmps42
        go_wp2
        go_ret
        exact ⟨rfl, rfl⟩

def nmB (b : UInt8) : Bool := letB b.toNat || decide (48 ≤ b.toNat ∧ b.toNat ≤ 57)
def nameB : Bs → Bool
  | [] => false
  | c :: r => decide ((c :: r).length ≤ 32) && letB c.toNat && (c :: r).all nmB

theorem nameB_cons (c : UInt8) (r : Bs) : nameB (c :: r) = (decide ((c :: r).length ≤ 32) && letB c.toNat && (c :: r).all nmB) := rfl
theorem bytes_at (s : ByteArray) (cap j : Nat) (h : j < s.size) : (bytesRow s cap)[j]? = some (.int .u8 ((s[j].toNat : Nat) : Int)) := bytesRow_at s cap j h
set_option maxHeartbeats 2000000 in
set_option maxRecDepth 100000 in
theorem name_any (s : ByteArray) (l : Bs) (hl : s.data.toList = l) (b : Bool) (hb : nameB l = b) (w : World) : Calls Tryz.prog 20 #[.string s] w fun e w' => e = .returned (.bool b) ∧ Below w.heap.size w w' := by
  have hll : l.length = s.size := by rw [← hl, size_list]
  have hcv := fun w s => run_bytes_of_string (P := Tryz.prog) w 9 47 5 s Tryz.underlying9 Tryz.underlying47 Tryz.underlying5
  by_cases h0 : s.size = 0
  · have hl0 : l = [] := List.eq_nil_of_length_eq_zero (by omega)
    subst hl0
    have hs : s = ⟨#[]⟩ := by
      apply ByteArray.ext
      apply Array.toList_inj.1
      rw [hl]
    subst hs
    obtain rfl : b = false := hb.symm
    clear hl hb h0 hcv
    go_enter Tryz.func20, Tryz.ntmps20
    go_wp2
    go_ret
    exact ⟨rfl, by (repeat' (first | (with_reducible exact Below.refl _ _) | (with_reducible assumption) | (with_reducible refine balloc ?_ _) | (with_reducible refine Below.drew ?_) | (with_reducible refine bset ?_ ?_ _) | (with_reducible refine bstep ?_ (by with_reducible assumption)) | (with_reducible refine bturn ?_ (by with_reducible assumption) ?_) | go_size))⟩
  · obtain ⟨c, r, hcr⟩ : ∃ c r, l = c :: r := by
      cases l with
      | nil => rw [List.length_nil] at hll; omega
      | cons c r => exact ⟨c, r, rfl⟩
    have hp0 : 0 < s.size := by omega
    have hne : s.toList.isEmpty = false := by rw [Lib.toList_data, hl, hcr]; rfl
    have hc : s[0]'hp0 = c := head_of (hl.trans hcr) hp0
    have hv : (((s[0]'hp0).toNat : Nat) : Int) = ((c.toNat : Nat) : Int) := by rw [hc]
    by_cases h32 : 32 < s.size
    · have hb' : b = false := by rw [← hb, hcr]; rw [nameB_cons, decide_eq_false (show ¬ (c :: r).length ≤ 32 by rw [← hcr]; omega)]; rfl
      subst hb'
      have h32i : (32 : Int) < (s.size : Int) := by omega
      clear hl hb hcv hc hv hcr hll
      go_enter Tryz.func20, Tryz.ntmps20
      go_wp2
      go_ret
      exact ⟨rfl, by (repeat' (first | (with_reducible exact Below.refl _ _) | (with_reducible assumption) | (with_reducible refine balloc ?_ _) | (with_reducible refine Below.drew ?_) | (with_reducible refine bset ?_ ?_ _) | (with_reducible refine bstep ?_ (by with_reducible assumption)) | (with_reducible refine bturn ?_ (by with_reducible assumption) ?_) | go_size))⟩
    have h32i : ¬ (32 : Int) < (s.size : Int) := by omega
    cases hlt : letB c.toNat with
    | false =>
      have hb' : b = false := by rw [← hb, hcr]; rw [nameB_cons]; rw [hlt, Bool.and_false]; rfl
      subst hb'
      have HL := Lib.hid (fun W => letter_any c.toNat false hlt W)
      clear hl hb hcv hc hcr hll hlt
      go_enter Tryz.func20, Tryz.ntmps20
      go_wp2_with fail
      refine (HL.out _).mono ?_
      rintro _ _ ⟨rfl, rfl⟩
      go_wp2
      go_ret
      exact ⟨rfl, by (repeat' (first | (with_reducible exact Below.refl _ _) | (with_reducible assumption) | (with_reducible refine balloc ?_ _) | (with_reducible refine Below.drew ?_) | (with_reducible refine bset ?_ ?_ _) | (with_reducible refine bstep ?_ (by with_reducible assumption)) | (with_reducible refine bturn ?_ (by with_reducible assumption) ?_) | go_size))⟩
    | true =>
      have hb' : l.all nmB = b := by rw [← hb, hcr]; rw [nameB_cons, hlt, decide_eq_true (show (c :: r).length ≤ 32 by rw [← hcr]; omega)]; rfl
      have HB := Lib.hid hb'
      have HL := Lib.hid (fun W => letter_any c.toNat true hlt W)
      have Hl := Lib.hid hl
      clear hl hb hc hcr hll hlt hb'
      go_enter Tryz.func20, Tryz.ntmps20
      go_wp2_with fail
      refine (HL.out _).mono ?_
      rintro _ _ ⟨rfl, rfl⟩
      go_wp2_with fail
      have hrow : ∀ j, j < s.size → ((w.alloc (.cells (bytesRow s (grownCap w s.size 0 5)) 5 ((bytesRow s (grownCap w s.size 0 5)).size, (bytesRow s (grownCap w s.size 0 5)).size + 1))).drew).cell? ⟨w.heap.size, j, none⟩ = some (.int .u8 (byteW s j).toNat) := by
        intro j hj
        have e : ((w.alloc (.cells (bytesRow s (grownCap w s.size 0 5)) 5 ((bytesRow s (grownCap w s.size 0 5)).size, (bytesRow s (grownCap w s.size 0 5)).size + 1))).drew).heap[w.heap.size]? = some (.cells (bytesRow s (grownCap w s.size 0 5)) 5 ((bytesRow s (grownCap w s.size 0 5)).size, (bytesRow s (grownCap w s.size 0 5)).size + 1)) := by
          show (w.heap.push _)[w.heap.size]? = _
          simp
        rw [Lib.cell_of_heap e, bytes_at s _ j hj, byteW_eq s j hj]
      have hbl : Below w.heap.size w ((w.alloc (.cells (bytesRow s (grownCap w s.size 0 5)) 5 ((bytesRow s (grownCap w s.size 0 5)).size, (bytesRow s (grownCap w s.size 0 5)).size + 1))).drew) := by (repeat' (first | (with_reducible exact Below.refl _ _) | (with_reducible assumption) | (with_reducible refine balloc ?_ _) | (with_reducible refine Below.drew ?_) | (with_reducible refine bset ?_ ?_ _) | (with_reducible refine bstep ?_ (by with_reducible assumption)) | (with_reducible refine bturn ?_ (by with_reducible assumption) ?_) | go_size))
      generalize ((w.alloc (.cells (bytesRow s (grownCap w s.size 0 5)) 5 ((bytesRow s (grownCap w s.size 0 5)).size, (bytesRow s (grownCap w s.size 0 5)).size + 1))).drew) = W at hrow hbl ⊢
      have HRow := Lib.hid hrow
      clear hrow hcv
      go_loop [21, 4] (fun i _ => ∃ k : Nat, k ≤ s.size ∧ i = .int .i64 (k : Int) ∧ Hid ((s.data.toList.drop k).all nmB = b)) (fun i _ => s.size - (intOf i).toNat)
      case atStart => exact ⟨0, by omega, rfl, Lib.hid (by rw [List.drop_zero, Hl.out]; exact HB.out)⟩
      case round =>
        obtain ⟨k, hk, rfl, HK⟩ := hrel
        by_cases hlt : k < s.size
        · have hcell := HRow.out k hlt
          have hd := byte_drop s k hlt
          have hst := HK.out
          rw [hd, List.all_cons, ← byteW_eq s k hlt] at hst
          obtain ⟨y, hy⟩ : ∃ y, byteW s k = y := ⟨_, rfl⟩
          rw [hy] at hcell hst
          cases hlet : letB y.toNat with
          | true =>
            have HL2 := Lib.hid (fun W => letter_any y.toNat true hlet W)
            have HK2 : Hid ((s.data.toList.drop (k + 1)).all nmB = b) := Lib.hid (by
              rw [← hst]
              have : nmB y = true := by unfold nmB; rw [hlet]; rfl
              rw [this, Bool.true_and])
            clear hd hst hy hlet
            go_wp2_with fail
            refine (HL2.out _).mono ?_
            rintro _ _ ⟨rfl, rfl⟩
            go_wp2_with fail
            go_round
            case rel => exact ⟨k + 1, by omega, by go_num, HK2⟩
            case measure => simp [intOf]; omega
          | false =>
            have HL2 := Lib.hid (fun W => letter_any y.toNat false hlet W)
            by_cases hdg : 48 ≤ y.toNat ∧ y.toNat ≤ 57
            · have HK2 : Hid ((s.data.toList.drop (k + 1)).all nmB = b) := Lib.hid (by
                rw [← hst]
                have : nmB y = true := by unfold nmB; rw [hlet, decide_eq_true hdg]; rfl
                rw [this, Bool.true_and])
              have d1 : ¬ ((y.toNat : Nat) : Int) < 48 := by omega
              have d2 : ¬ (57 : Int) < ((y.toNat : Nat) : Int) := by omega
              clear hd hst hy hlet hdg
              go_wp2_with fail
              refine (HL2.out _).mono ?_
              rintro _ _ ⟨rfl, rfl⟩
              go_wp2_with fail
              go_round
              case rel => exact ⟨k + 1, by omega, by go_num, HK2⟩
              case measure => simp [intOf]; omega
            · have hb' : b = false := by
                rw [← hst]
                have : nmB y = false := by unfold nmB; rw [hlet, decide_eq_false hdg]; rfl
                rw [this, Bool.false_and]
              subst hb'
              by_cases d1 : y.toNat < 48
              · have d1i : ((y.toNat : Nat) : Int) < 48 := by omega
                clear hd hst hy hlet hdg d1
                go_wp2_with fail
                refine (HL2.out _).mono ?_
                rintro _ _ ⟨rfl, rfl⟩
                go_wp2
                go_ret
                exact ⟨rfl, by (repeat' (first | (with_reducible exact Below.refl _ _) | (with_reducible assumption) | (with_reducible refine balloc ?_ _) | (with_reducible refine Below.drew ?_) | (with_reducible refine bset ?_ ?_ _) | (with_reducible refine bstep ?_ (by with_reducible assumption)) | (with_reducible refine bturn ?_ (by with_reducible assumption) ?_) | go_size))⟩
              · have d1i : ¬ ((y.toNat : Nat) : Int) < 48 := by omega
                have d2 : (57 : Int) < ((y.toNat : Nat) : Int) := by omega
                clear hd hst hy hlet hdg d1
                go_wp2_with fail
                refine (HL2.out _).mono ?_
                rintro _ _ ⟨rfl, rfl⟩
                go_wp2
                go_ret
                exact ⟨rfl, by (repeat' (first | (with_reducible exact Below.refl _ _) | (with_reducible assumption) | (with_reducible refine balloc ?_ _) | (with_reducible refine Below.drew ?_) | (with_reducible refine bset ?_ ?_ _) | (with_reducible refine bstep ?_ (by with_reducible assumption)) | (with_reducible refine bturn ?_ (by with_reducible assumption) ?_) | go_size))⟩
        · obtain rfl : k = s.size := by omega
          have hst := HK.out
          rw [drop_end s _ (Nat.le_refl _)] at hst
          obtain rfl : b = true := hst.symm
          clear hst
          go_wp2
          go_ret
          exact ⟨rfl, by (repeat' (first | (with_reducible exact Below.refl _ _) | (with_reducible assumption) | (with_reducible refine balloc ?_ _) | (with_reducible refine Below.drew ?_) | (with_reducible refine bset ?_ ?_ _) | (with_reducible refine bstep ?_ (by with_reducible assumption)) | (with_reducible refine bturn ?_ (by with_reducible assumption) ?_) | go_size))⟩
end Go.Proofs.YtambpkkllgppdaaGreatDoor

namespace Go.Proofs.YtambpkkllgppdaaGreatDoor
open Go.RowKit

def wordsL : List Bs := [[110, 117, 108, 108], [116, 114, 117, 101], [102, 97, 108, 115, 101], [97, 110, 100], [111, 114], [110, 111, 116], [105, 102], [116, 104, 101, 110], [101, 108, 115, 101]]
def wordB (l : Bs) : Bool := nameB l && !wordsL.contains l
theorem words_any (w : World) : Calls Tryz.prog 22 #[] w fun e w' => (∃ g, e = .returned (.slice (some ⟨g, 0, none⟩) 9 9) ∧ SS w' g wordsL) ∧ Below w.heap.size w w' := by
  go_enter Tryz.func22, Tryz.ntmps22
  go_wp2_with fail
  go_returns
  exact ⟨⟨_, rfl, SS.of_blk (Blk.new _ _ _)⟩, by (repeat' (first | (with_reducible exact Below.refl _ _) | (with_reducible assumption) | (with_reducible refine balloc ?_ _) | (with_reducible refine Below.drew ?_) | (with_reducible refine bset ?_ ?_ _) | (with_reducible refine bstep ?_ (by with_reducible assumption)) | (with_reducible refine bturn ?_ (by with_reducible assumption) ?_) | go_size))⟩

set_option maxHeartbeats 2000000 in
set_option maxRecDepth 100000 in
theorem index_any (L : List Bs) (hL : L.length ≤ 1000) (g c : Nat) (s : ByteArray) (l : Bs) (hl : s.data.toList = l) (b : Bool) (hb : L.contains l = b) (w : World) (hS : SS w g L) :
    Calls Tryz.prog 43 #[.slice (some ⟨g, 0, none⟩) L.length c, .string s] w fun e w' => (∃ i : Int, e = .returned (.int .i64 i) ∧ decide (0 ≤ i) = b) ∧ w = w' := by
  have Hl := Lib.hid hl
  have Hb := Lib.hid hb
  have HS := Lib.hid hS
  clear hl hb hS
  go_enter Tryz.func43, Tryz.ntmps43
  go_wp2_with fail
  go_loop [8, 5] (fun i _ => ∃ k : Nat, k ≤ L.length ∧ i = .int .i64 (k : Int) ∧ Hid ((L.drop k).contains l = b)) (fun i _ => L.length - (intOf i).toNat)
  case atStart => exact ⟨0, by omega, rfl, Lib.hid (by rw [List.drop_zero]; exact Hb.out)⟩
  case round =>
    obtain ⟨k, hk, rfl, HK⟩ := hrel
    by_cases hlt : k < L.length
    · have hc := HS.out k L[k] (List.getElem?_eq_getElem hlt)
      have hd := List.drop_eq_getElem_cons hlt
      have hst := HK.out
      rw [hd, List.contains_cons] at hst
      obtain ⟨q, hq⟩ : ∃ q, L[k] = q := ⟨_, rfl⟩
      rw [hq] at hc hst
      have hE : (s.toList == (bs q).toList) = (l == q) := by rw [Lib.toList_data, Lib.toList_data, Hl.out]; rfl
      cases hlq : (l == q) with
      | true =>
        rw [hlq] at hE hst
        have Hst := Lib.hid (show true = b from by rw [← hst, Bool.true_or])
        clear hst hd hq hlq
        go_wp2_with fail
        go_ret
        exact ⟨⟨k, rfl, by rw [← Hst.out]; exact decide_eq_true (by omega)⟩, rfl⟩
      | false =>
        rw [hlq] at hE hst
        have HK2 : Hid ((L.drop (k + 1)).contains l = b) := Lib.hid (by rw [← hst, Bool.false_or])
        clear hst hd hq hlq
        go_wp2_with fail
        go_round
        case rel => exact ⟨k + 1, by omega, by go_num, HK2⟩
        case measure => simp [intOf]; omega
    · obtain rfl : k = L.length := by omega
      have hst := HK.out
      rw [List.drop_length] at hst
      have Hst := Lib.hid hst
      clear hst
      go_wp2
      go_ret
      exact ⟨⟨-1, rfl, by rw [← Hst.out]; rfl⟩, rfl⟩

theorem contains_any (L : List Bs) (hL : L.length ≤ 1000) (g c : Nat) (s : ByteArray) (l : Bs) (hl : s.data.toList = l) (b : Bool) (hb : L.contains l = b) (w : World) (hS : SS w g L) :
    Calls Tryz.prog 21 #[.slice (some ⟨g, 0, none⟩) L.length c, .string s] w fun e w' => e = .returned (.bool b) ∧ w = w' := by
  have HI := Lib.hid (index_any L hL g c s l hl b hb w hS)
  clear hl hb hS
  go_enter Tryz.func21, Tryz.ntmps21
  go_wp2_with fail
  refine HI.out.mono ?_
  rintro _ _ ⟨⟨i, rfl, hi⟩, rfl⟩
  cases b with
  | true =>
    have h0 := of_decide_eq_true hi
    clear hi
    go_wp2
    go_ret
    exact ⟨rfl, rfl⟩
  | false =>
    have h0 : ¬ 0 ≤ i := of_decide_eq_false hi
    go_wp2
    go_ret
    exact ⟨by first | rfl | (simp; omega), rfl⟩
theorem word_any (s : ByteArray) (l : Bs) (hl : s.data.toList = l) (b : Bool) (hb : wordB l = b) (w : World) : Calls Tryz.prog 12 #[.string s] w fun e w' => e = .returned (.bool b) ∧ Below w.heap.size w w' := by
  unfold wordB at hb
  cases hn : nameB l with
  | false =>
    rw [hn, Bool.false_and] at hb
    subst hb
    have HN := Lib.hid (fun W => name_any s l hl false hn W)
    clear hl hn
    go_enter Tryz.func12, Tryz.ntmps12
    go_wp2_with fail
    refine (HN.out _).mono ?_
    rintro _ w1 ⟨rfl, hw1⟩
    go_wp2
    go_ret
    exact ⟨rfl, by (repeat' (first | (with_reducible exact Below.refl _ _) | (with_reducible assumption) | (with_reducible refine balloc ?_ _) | (with_reducible refine Below.drew ?_) | (with_reducible refine bset ?_ ?_ _) | (with_reducible refine bstep ?_ (by with_reducible assumption)) | (with_reducible refine bturn ?_ (by with_reducible assumption) ?_) | go_size))⟩
  | true =>
    rw [hn, Bool.true_and] at hb
    have HN := Lib.hid (fun W => name_any s l hl true hn W)
    have HW := Lib.hid (fun W => words_any W)
    obtain ⟨k, hk⟩ : ∃ k, wordsL.contains l = k := ⟨_, rfl⟩
    rw [hk] at hb
    have HC := Lib.hid (fun g W hS => contains_any wordsL (by decide) g 9 s l hl k hk W hS)
    subst hb
    clear hl hn hk
    go_enter Tryz.func12, Tryz.ntmps12
    go_wp2_with fail
    refine (HN.out _).mono ?_
    rintro _ w1 ⟨rfl, hw1⟩
    go_wp2_with fail
    refine (HW.out _).mono ?_
    rintro _ w2 ⟨⟨g, rfl, hS⟩, hw2⟩
    go_wp2_with fail
    refine (HC.out g _ hS).mono ?_
    rintro _ _ ⟨rfl, rfl⟩
    go_wp2
    go_ret
    exact ⟨rfl, by (repeat' (first | (with_reducible exact Below.refl _ _) | (with_reducible assumption) | (with_reducible refine balloc ?_ _) | (with_reducible refine Below.drew ?_) | (with_reducible refine bset ?_ ?_ _) | (with_reducible refine bstep ?_ (by with_reducible assumption)) | (with_reducible refine bturn ?_ (by with_reducible assumption) ?_) | go_size))⟩
end Go.Proofs.YtambpkkllgppdaaGreatDoor

namespace Go.Proofs.YtambpkkllgppdaaGreatDoor
open Go.RowKit

def tkeq (a b : Int) (c : ByteArray) (d e f a' b' : Int) (c' : ByteArray) (d' e' f' : Int) : Bool := a == a' && (b == b' && (c.toList == c'.toList && (d == d' && (e == e' && f == f'))))
theorem tkeq_self (a b : Int) (c : ByteArray) (d e f : Int) : tkeq a b c d e f a b c d e f = true := by simp [tkeq]
set_option maxHeartbeats 1000000 in
theorem run_tok_eql (w : World) (a b : Int) (c : ByteArray) (d e f a' b' : Int) (c' : ByteArray) (d' e' f' : Int) :
    (binOp .eql 38 (.agg #[.int .i64 a, .int .i64 b, .string c, .int .i64 d, .int .i64 e, .int .i64 f]) (.agg #[.int .i64 a', .int .i64 b', .string c', .int .i64 d', .int .i64 e', .int .i64 f'])).run Tryz.prog w
      = .ok (.bool (tkeq a b c d e f a' b' c' d' e' f')) w := by
  go_simp
  unfold tkeq
  by_cases h1 : a = a' <;> by_cases h2 : b = b' <;> by_cases h3 : c.toList = c'.toList <;> by_cases h4 : d = d' <;> by_cases h5 : e = e' <;> by_cases h6 : f = f' <;> simp [h1, h2, h3, h4, h5, h6]
set_option maxHeartbeats 1000000 in
theorem run_tok_neq (w : World) (a b : Int) (c : ByteArray) (d e f a' b' : Int) (c' : ByteArray) (d' e' f' : Int) :
    (binOp .neq 38 (.agg #[.int .i64 a, .int .i64 b, .string c, .int .i64 d, .int .i64 e, .int .i64 f]) (.agg #[.int .i64 a', .int .i64 b', .string c', .int .i64 d', .int .i64 e', .int .i64 f'])).run Tryz.prog w
      = .ok (.bool (!tkeq a b c d e f a' b' c' d' e' f')) w := by
  go_simp
  unfold tkeq
  by_cases h1 : a = a' <;> by_cases h2 : b = b' <;> by_cases h3 : c.toList = c'.toList <;> by_cases h4 : d = d' <;> by_cases h5 : e = e' <;> by_cases h6 : f = f' <;> simp [h1, h2, h3, h4, h5, h6]
attribute [local go_sem high] run_tok_eql run_tok_neq tkeq_self

set_option maxHeartbeats 4000000 in
set_option maxRecDepth 100000 in
theorem one_name (a : Int) (o o2 : ByteArray) (w : World) (ho : o ++ ⟨#[32]⟩ = o2) (hos : o.size ≤ 100000)  (HN : Hid (∀ W, Below w.heap.size w W → Calls Tryz.prog 17 #[.string o2] W fun e w' => e = .returned (.tuple #[.agg #[.int .i64 4, .int .i64 0, .string o, .int .i64 0, .int .i64 0, .int .i64 0], .int .i64 (o.size : Int), .int .i64 0]) ∧ Below W.heap.size W w')) :
    Calls Tryz.prog 24 #[.agg #[.int .i64 4, .int .i64 a, .string o, .int .i64 0, .int .i64 0, .int .i64 0]] w fun e w' => e = .returned (.tuple #[.string o, .bool true]) ∧ Below w.heap.size w w' := by
  have hb0 := (Blk.new w 38 #[.int .i64 4, .int .i64 a, .string o, .int .i64 0, .int .i64 0, .int .i64 0]).alloc (.cells #[.int .i64 4, .int .i64 a, .string o, .int .i64 0, .int .i64 0, .int .i64 0] 38)
  go_enter Tryz.func24, Tryz.ntmps24
  go_wp2_with fail
  refine (HN.out _ (by (repeat' (first | (with_reducible exact Below.refl _ _) | (with_reducible assumption) | (with_reducible refine balloc ?_ _) | (with_reducible refine Below.drew ?_) | (with_reducible refine bset ?_ ?_ _) | (with_reducible refine bstep ?_ (by with_reducible assumption)) | (with_reducible refine bturn ?_ (by with_reducible assumption) ?_) | go_size)))).mono ?_
  rintro _ w8 ⟨rfl, hw8⟩
  replace hb0 := hb0.step hw8
  have hl0 := hb0.lt
  have hll0 := lts hl0
  have z0 := hb0.frozen 1
  have c0 := hb0.cell 0
  have c1 := hb0.cell 1
  have c2 := hb0.cell 2
  have c3 := hb0.cell 3
  have c4 := hb0.cell 4
  have c5 := hb0.cell 5
  simp at c0 c1 c2 c3 c4 c5
  go_wp2_with fail
  go_quiet (fail)
  go_wp2_with fail
  go_returns
  exact ⟨by first | rfl | simp, by first | exact bdrewN (by (repeat' (first | (with_reducible exact Below.refl _ _) | (with_reducible assumption) | (with_reducible refine balloc ?_ _) | (with_reducible refine Below.drew ?_) | (with_reducible refine bset ?_ ?_ _) | (with_reducible refine bstep ?_ (by with_reducible assumption)) | (with_reducible refine bturn ?_ (by with_reducible assumption) ?_) | go_size))) _ | (refine bdrewN ?_; (repeat' (first | (with_reducible exact Below.refl _ _) | (with_reducible assumption) | (with_reducible refine balloc ?_ _) | (with_reducible refine Below.drew ?_) | (with_reducible refine bset ?_ ?_ _) | (with_reducible refine bstep ?_ (by with_reducible assumption)) | (with_reducible refine bturn ?_ (by with_reducible assumption) ?_) | go_size))) | exact ⟨(show Below w.heap.size w _ by (repeat' (first | (with_reducible exact Below.refl _ _) | (with_reducible assumption) | (with_reducible refine balloc ?_ _) | (with_reducible refine Below.drew ?_) | (with_reducible refine bset ?_ ?_ _) | (with_reducible refine bstep ?_ (by with_reducible assumption)) | (with_reducible refine bturn ?_ (by with_reducible assumption) ?_) | go_size))).os, (show Below w.heap.size w _ by (repeat' (first | (with_reducible exact Below.refl _ _) | (with_reducible assumption) | (with_reducible refine balloc ?_ _) | (with_reducible refine Below.drew ?_) | (with_reducible refine bset ?_ ?_ _) | (with_reducible refine bstep ?_ (by with_reducible assumption)) | (with_reducible refine bturn ?_ (by with_reducible assumption) ?_) | go_size))).tape, (show Below w.heap.size w _ by (repeat' (first | (with_reducible exact Below.refl _ _) | (with_reducible assumption) | (with_reducible refine balloc ?_ _) | (with_reducible refine Below.drew ?_) | (with_reducible refine bset ?_ ?_ _) | (with_reducible refine bstep ?_ (by with_reducible assumption)) | (with_reducible refine bturn ?_ (by with_reducible assumption) ?_) | go_size))).output, (show Below w.heap.size w _ by (repeat' (first | (with_reducible exact Below.refl _ _) | (with_reducible assumption) | (with_reducible refine balloc ?_ _) | (with_reducible refine Below.drew ?_) | (with_reducible refine bset ?_ ?_ _) | (with_reducible refine bstep ?_ (by with_reducible assumption)) | (with_reducible refine bturn ?_ (by with_reducible assumption) ?_) | go_size))).size, (show Below w.heap.size w _ by (repeat' (first | (with_reducible exact Below.refl _ _) | (with_reducible assumption) | (with_reducible refine balloc ?_ _) | (with_reducible refine Below.drew ?_) | (with_reducible refine bset ?_ ?_ _) | (with_reducible refine bstep ?_ (by with_reducible assumption)) | (with_reducible refine bturn ?_ (by with_reducible assumption) ?_) | go_size))).block⟩⟩

set_option maxHeartbeats 4000000 in
set_option maxRecDepth 100000 in
theorem one_sign (a : Int) (o o2 : ByteArray) (w : World) (ho : o ++ ⟨#[32]⟩ = o2) (hos : o.size ≤ 100000)  (HN : Hid (∀ W, Below w.heap.size w W → Calls Tryz.prog 17 #[.string o2] W fun e w' => e = .returned (.tuple #[.agg #[.int .i64 5, .int .i64 0, .string o, .int .i64 0, .int .i64 0, .int .i64 0], .int .i64 (o.size : Int), .int .i64 0]) ∧ Below W.heap.size W w')) :
    Calls Tryz.prog 24 #[.agg #[.int .i64 5, .int .i64 a, .string o, .int .i64 0, .int .i64 0, .int .i64 0]] w fun e w' => e = .returned (.tuple #[.string o, .bool true]) ∧ Below w.heap.size w w' := by
  have hb0 := (Blk.new w 38 #[.int .i64 5, .int .i64 a, .string o, .int .i64 0, .int .i64 0, .int .i64 0]).alloc (.cells #[.int .i64 5, .int .i64 a, .string o, .int .i64 0, .int .i64 0, .int .i64 0] 38)
  go_enter Tryz.func24, Tryz.ntmps24
  go_wp2_with fail
  refine (HN.out _ (by (repeat' (first | (with_reducible exact Below.refl _ _) | (with_reducible assumption) | (with_reducible refine balloc ?_ _) | (with_reducible refine Below.drew ?_) | (with_reducible refine bset ?_ ?_ _) | (with_reducible refine bstep ?_ (by with_reducible assumption)) | (with_reducible refine bturn ?_ (by with_reducible assumption) ?_) | go_size)))).mono ?_
  rintro _ w8 ⟨rfl, hw8⟩
  replace hb0 := hb0.step hw8
  have hl0 := hb0.lt
  have hll0 := lts hl0
  have z0 := hb0.frozen 1
  have c0 := hb0.cell 0
  have c1 := hb0.cell 1
  have c2 := hb0.cell 2
  have c3 := hb0.cell 3
  have c4 := hb0.cell 4
  have c5 := hb0.cell 5
  simp at c0 c1 c2 c3 c4 c5
  go_wp2_with fail
  go_quiet (fail)
  go_wp2_with fail
  go_returns
  exact ⟨by first | rfl | simp, by first | exact bdrewN (by (repeat' (first | (with_reducible exact Below.refl _ _) | (with_reducible assumption) | (with_reducible refine balloc ?_ _) | (with_reducible refine Below.drew ?_) | (with_reducible refine bset ?_ ?_ _) | (with_reducible refine bstep ?_ (by with_reducible assumption)) | (with_reducible refine bturn ?_ (by with_reducible assumption) ?_) | go_size))) _ | (refine bdrewN ?_; (repeat' (first | (with_reducible exact Below.refl _ _) | (with_reducible assumption) | (with_reducible refine balloc ?_ _) | (with_reducible refine Below.drew ?_) | (with_reducible refine bset ?_ ?_ _) | (with_reducible refine bstep ?_ (by with_reducible assumption)) | (with_reducible refine bturn ?_ (by with_reducible assumption) ?_) | go_size))) | exact ⟨(show Below w.heap.size w _ by (repeat' (first | (with_reducible exact Below.refl _ _) | (with_reducible assumption) | (with_reducible refine balloc ?_ _) | (with_reducible refine Below.drew ?_) | (with_reducible refine bset ?_ ?_ _) | (with_reducible refine bstep ?_ (by with_reducible assumption)) | (with_reducible refine bturn ?_ (by with_reducible assumption) ?_) | go_size))).os, (show Below w.heap.size w _ by (repeat' (first | (with_reducible exact Below.refl _ _) | (with_reducible assumption) | (with_reducible refine balloc ?_ _) | (with_reducible refine Below.drew ?_) | (with_reducible refine bset ?_ ?_ _) | (with_reducible refine bstep ?_ (by with_reducible assumption)) | (with_reducible refine bturn ?_ (by with_reducible assumption) ?_) | go_size))).tape, (show Below w.heap.size w _ by (repeat' (first | (with_reducible exact Below.refl _ _) | (with_reducible assumption) | (with_reducible refine balloc ?_ _) | (with_reducible refine Below.drew ?_) | (with_reducible refine bset ?_ ?_ _) | (with_reducible refine bstep ?_ (by with_reducible assumption)) | (with_reducible refine bturn ?_ (by with_reducible assumption) ?_) | go_size))).output, (show Below w.heap.size w _ by (repeat' (first | (with_reducible exact Below.refl _ _) | (with_reducible assumption) | (with_reducible refine balloc ?_ _) | (with_reducible refine Below.drew ?_) | (with_reducible refine bset ?_ ?_ _) | (with_reducible refine bstep ?_ (by with_reducible assumption)) | (with_reducible refine bturn ?_ (by with_reducible assumption) ?_) | go_size))).size, (show Below w.heap.size w _ by (repeat' (first | (with_reducible exact Below.refl _ _) | (with_reducible assumption) | (with_reducible refine balloc ?_ _) | (with_reducible refine Below.drew ?_) | (with_reducible refine bset ?_ ?_ _) | (with_reducible refine bstep ?_ (by with_reducible assumption)) | (with_reducible refine bturn ?_ (by with_reducible assumption) ?_) | go_size))).block⟩⟩

set_option maxHeartbeats 4000000 in
set_option maxRecDepth 100000 in
theorem one_num (a n s : Int) (o o2 : ByteArray) (w : World) (ho : o ++ ⟨#[32]⟩ = o2) (hos : o.size ≤ 100000) (hn : 0 ≤ n) (HT : Hid (∀ W, Below w.heap.size w W → Calls Tryz.prog 44 #[.agg #[.int .i64 n, .int .i64 s]] W fun e w' => e = .returned (.tuple #[.string o, .int .i64 0]) ∧ Below W.heap.size W w')) (HN : Hid (∀ W, Below w.heap.size w W → Calls Tryz.prog 17 #[.string o2] W fun e w' => e = .returned (.tuple #[.agg #[.int .i64 1, .int .i64 0, .string ⟨#[]⟩, .int .i64 n, .int .i64 s, .int .i64 0], .int .i64 (o.size : Int), .int .i64 0]) ∧ Below W.heap.size W w')) :
    Calls Tryz.prog 24 #[.agg #[.int .i64 1, .int .i64 a, .string ⟨#[]⟩, .int .i64 n, .int .i64 s, .int .i64 0]] w fun e w' => e = .returned (.tuple #[.string o, .bool true]) ∧ Below w.heap.size w w' := by
  have hb0 := (Blk.new w 38 #[.int .i64 1, .int .i64 a, .string ⟨#[]⟩, .int .i64 n, .int .i64 s, .int .i64 0]).alloc (.cells #[.int .i64 1, .int .i64 a, .string ⟨#[]⟩, .int .i64 n, .int .i64 s, .int .i64 0] 38)
  go_enter Tryz.func24, Tryz.ntmps24
  have hn0 : ¬ n < 0 := by omega
  have hbb := Blk.new' (w.alloc (.cells #[.int .i64 1, .int .i64 a, .string ⟨#[]⟩, .int .i64 n, .int .i64 s, .int .i64 0] 38)) 38 #[.int .i64 1, .int .i64 a, .string ⟨#[]⟩, .int .i64 n, .int .i64 s, .int .i64 0] (n := w.heap.size + 1) (by simp)
  go_wp2_with fail
  refine (HT.out _ (by (repeat' (first | (with_reducible exact Below.refl _ _) | (with_reducible assumption) | (with_reducible refine balloc ?_ _) | (with_reducible refine Below.drew ?_) | (with_reducible refine bset ?_ ?_ _) | (with_reducible refine bstep ?_ (by with_reducible assumption)) | (with_reducible refine bturn ?_ (by with_reducible assumption) ?_) | go_size)))).mono ?_
  rintro _ w7 ⟨rfl, hw7⟩
  replace hb0 := hb0.step hw7
  replace hbb := hbb.step hw7
  have d0 := hb0.cell 0
  have d1 := hb0.cell 1
  have d2 := hb0.cell 2
  have d3 := hb0.cell 3
  have d4 := hb0.cell 4
  have d5 := hb0.cell 5
  have b0 := hbb.cell 0
  have b1 := hbb.cell 1
  have b2 := hbb.cell 2
  have b3 := hbb.cell 3
  have b4 := hbb.cell 4
  have b5 := hbb.cell 5
  simp at d0 d1 d2 d3 d4 d5 b0 b1 b2 b3 b4 b5
  go_wp2_with fail
  refine (HN.out _ (by (repeat' (first | (with_reducible exact Below.refl _ _) | (with_reducible assumption) | (with_reducible refine balloc ?_ _) | (with_reducible refine Below.drew ?_) | (with_reducible refine bset ?_ ?_ _) | (with_reducible refine bstep ?_ (by with_reducible assumption)) | (with_reducible refine bturn ?_ (by with_reducible assumption) ?_) | go_size)))).mono ?_
  rintro _ w8 ⟨rfl, hw8⟩
  replace hb0 := hb0.step hw8
  have hl0 := hb0.lt
  have hll0 := lts hl0
  have z0 := hb0.frozen 1
  have c0 := hb0.cell 0
  have c1 := hb0.cell 1
  have c2 := hb0.cell 2
  have c3 := hb0.cell 3
  have c4 := hb0.cell 4
  have c5 := hb0.cell 5
  simp at c0 c1 c2 c3 c4 c5
  go_wp2_with fail
  go_quiet (fail)
  go_wp2_with fail
  go_returns
  exact ⟨by first | rfl | simp, by first | exact bdrewN (by (repeat' (first | (with_reducible exact Below.refl _ _) | (with_reducible assumption) | (with_reducible refine balloc ?_ _) | (with_reducible refine Below.drew ?_) | (with_reducible refine bset ?_ ?_ _) | (with_reducible refine bstep ?_ (by with_reducible assumption)) | (with_reducible refine bturn ?_ (by with_reducible assumption) ?_) | go_size))) _ | (refine bdrewN ?_; (repeat' (first | (with_reducible exact Below.refl _ _) | (with_reducible assumption) | (with_reducible refine balloc ?_ _) | (with_reducible refine Below.drew ?_) | (with_reducible refine bset ?_ ?_ _) | (with_reducible refine bstep ?_ (by with_reducible assumption)) | (with_reducible refine bturn ?_ (by with_reducible assumption) ?_) | go_size))) | exact ⟨(show Below w.heap.size w _ by (repeat' (first | (with_reducible exact Below.refl _ _) | (with_reducible assumption) | (with_reducible refine balloc ?_ _) | (with_reducible refine Below.drew ?_) | (with_reducible refine bset ?_ ?_ _) | (with_reducible refine bstep ?_ (by with_reducible assumption)) | (with_reducible refine bturn ?_ (by with_reducible assumption) ?_) | go_size))).os, (show Below w.heap.size w _ by (repeat' (first | (with_reducible exact Below.refl _ _) | (with_reducible assumption) | (with_reducible refine balloc ?_ _) | (with_reducible refine Below.drew ?_) | (with_reducible refine bset ?_ ?_ _) | (with_reducible refine bstep ?_ (by with_reducible assumption)) | (with_reducible refine bturn ?_ (by with_reducible assumption) ?_) | go_size))).tape, (show Below w.heap.size w _ by (repeat' (first | (with_reducible exact Below.refl _ _) | (with_reducible assumption) | (with_reducible refine balloc ?_ _) | (with_reducible refine Below.drew ?_) | (with_reducible refine bset ?_ ?_ _) | (with_reducible refine bstep ?_ (by with_reducible assumption)) | (with_reducible refine bturn ?_ (by with_reducible assumption) ?_) | go_size))).output, (show Below w.heap.size w _ by (repeat' (first | (with_reducible exact Below.refl _ _) | (with_reducible assumption) | (with_reducible refine balloc ?_ _) | (with_reducible refine Below.drew ?_) | (with_reducible refine bset ?_ ?_ _) | (with_reducible refine bstep ?_ (by with_reducible assumption)) | (with_reducible refine bturn ?_ (by with_reducible assumption) ?_) | go_size))).size, (show Below w.heap.size w _ by (repeat' (first | (with_reducible exact Below.refl _ _) | (with_reducible assumption) | (with_reducible refine balloc ?_ _) | (with_reducible refine Below.drew ?_) | (with_reducible refine bset ?_ ?_ _) | (with_reducible refine bstep ?_ (by with_reducible assumption)) | (with_reducible refine bturn ?_ (by with_reducible assumption) ?_) | go_size))).block⟩⟩

set_option maxHeartbeats 4000000 in
set_option maxRecDepth 100000 in
theorem one_date (a m : Int) (o o2 : ByteArray) (w : World) (ho : o ++ ⟨#[32]⟩ = o2) (hos : o.size ≤ 100000) (o0 : ByteArray) (ho0 : (⟨#[64, 34]⟩ ++ o0) ++ ⟨#[34]⟩ = o) (ho0s : o0.size ≤ 1000) (HT : Hid (∀ W, Below w.heap.size w W → Calls Tryz.prog 47 #[.int .i64 m] W fun e w' => e = .returned (.tuple #[.string o0, .int .i64 0]) ∧ Below W.heap.size W w')) (HN : Hid (∀ W, Below w.heap.size w W → Calls Tryz.prog 17 #[.string o2] W fun e w' => e = .returned (.tuple #[.agg #[.int .i64 3, .int .i64 0, .string ⟨#[]⟩, .int .i64 0, .int .i64 0, .int .i64 m], .int .i64 (o.size : Int), .int .i64 0]) ∧ Below W.heap.size W w')) :
    Calls Tryz.prog 24 #[.agg #[.int .i64 3, .int .i64 a, .string ⟨#[]⟩, .int .i64 0, .int .i64 0, .int .i64 m]] w fun e w' => e = .returned (.tuple #[.string o, .bool true]) ∧ Below w.heap.size w w' := by
  have hb0 := (Blk.new w 38 #[.int .i64 3, .int .i64 a, .string ⟨#[]⟩, .int .i64 0, .int .i64 0, .int .i64 m]).alloc (.cells #[.int .i64 3, .int .i64 a, .string ⟨#[]⟩, .int .i64 0, .int .i64 0, .int .i64 m] 38)
  go_enter Tryz.func24, Tryz.ntmps24
  have hbb := Blk.new' (w.alloc (.cells #[.int .i64 3, .int .i64 a, .string ⟨#[]⟩, .int .i64 0, .int .i64 0, .int .i64 m] 38)) 38 #[.int .i64 3, .int .i64 a, .string ⟨#[]⟩, .int .i64 0, .int .i64 0, .int .i64 m] (n := w.heap.size + 1) (by simp)
  go_wp2_with fail
  refine (HT.out _ (by (repeat' (first | (with_reducible exact Below.refl _ _) | (with_reducible assumption) | (with_reducible refine balloc ?_ _) | (with_reducible refine Below.drew ?_) | (with_reducible refine bset ?_ ?_ _) | (with_reducible refine bstep ?_ (by with_reducible assumption)) | (with_reducible refine bturn ?_ (by with_reducible assumption) ?_) | go_size)))).mono ?_
  rintro _ w7 ⟨rfl, hw7⟩
  replace hb0 := hb0.step hw7
  replace hbb := hbb.step hw7
  have d0 := hb0.cell 0
  have d1 := hb0.cell 1
  have d2 := hb0.cell 2
  have d3 := hb0.cell 3
  have d4 := hb0.cell 4
  have d5 := hb0.cell 5
  have b0 := hbb.cell 0
  have b1 := hbb.cell 1
  have b2 := hbb.cell 2
  have b3 := hbb.cell 3
  have b4 := hbb.cell 4
  have b5 := hbb.cell 5
  simp at d0 d1 d2 d3 d4 d5 b0 b1 b2 b3 b4 b5
  go_wp2_with fail
  refine (HN.out _ (by (repeat' (first | (with_reducible exact Below.refl _ _) | (with_reducible assumption) | (with_reducible refine balloc ?_ _) | (with_reducible refine Below.drew ?_) | (with_reducible refine bset ?_ ?_ _) | (with_reducible refine bstep ?_ (by with_reducible assumption)) | (with_reducible refine bturn ?_ (by with_reducible assumption) ?_) | go_size)))).mono ?_
  rintro _ w8 ⟨rfl, hw8⟩
  replace hb0 := hb0.step hw8
  have hl0 := hb0.lt
  have hll0 := lts hl0
  have z0 := hb0.frozen 1
  have c0 := hb0.cell 0
  have c1 := hb0.cell 1
  have c2 := hb0.cell 2
  have c3 := hb0.cell 3
  have c4 := hb0.cell 4
  have c5 := hb0.cell 5
  simp at c0 c1 c2 c3 c4 c5
  go_wp2_with fail
  go_quiet (fail)
  go_wp2_with fail
  go_returns
  exact ⟨by first | rfl | simp, by first | exact bdrewN (by (repeat' (first | (with_reducible exact Below.refl _ _) | (with_reducible assumption) | (with_reducible refine balloc ?_ _) | (with_reducible refine Below.drew ?_) | (with_reducible refine bset ?_ ?_ _) | (with_reducible refine bstep ?_ (by with_reducible assumption)) | (with_reducible refine bturn ?_ (by with_reducible assumption) ?_) | go_size))) _ | (refine bdrewN ?_; (repeat' (first | (with_reducible exact Below.refl _ _) | (with_reducible assumption) | (with_reducible refine balloc ?_ _) | (with_reducible refine Below.drew ?_) | (with_reducible refine bset ?_ ?_ _) | (with_reducible refine bstep ?_ (by with_reducible assumption)) | (with_reducible refine bturn ?_ (by with_reducible assumption) ?_) | go_size))) | exact ⟨(show Below w.heap.size w _ by (repeat' (first | (with_reducible exact Below.refl _ _) | (with_reducible assumption) | (with_reducible refine balloc ?_ _) | (with_reducible refine Below.drew ?_) | (with_reducible refine bset ?_ ?_ _) | (with_reducible refine bstep ?_ (by with_reducible assumption)) | (with_reducible refine bturn ?_ (by with_reducible assumption) ?_) | go_size))).os, (show Below w.heap.size w _ by (repeat' (first | (with_reducible exact Below.refl _ _) | (with_reducible assumption) | (with_reducible refine balloc ?_ _) | (with_reducible refine Below.drew ?_) | (with_reducible refine bset ?_ ?_ _) | (with_reducible refine bstep ?_ (by with_reducible assumption)) | (with_reducible refine bturn ?_ (by with_reducible assumption) ?_) | go_size))).tape, (show Below w.heap.size w _ by (repeat' (first | (with_reducible exact Below.refl _ _) | (with_reducible assumption) | (with_reducible refine balloc ?_ _) | (with_reducible refine Below.drew ?_) | (with_reducible refine bset ?_ ?_ _) | (with_reducible refine bstep ?_ (by with_reducible assumption)) | (with_reducible refine bturn ?_ (by with_reducible assumption) ?_) | go_size))).output, (show Below w.heap.size w _ by (repeat' (first | (with_reducible exact Below.refl _ _) | (with_reducible assumption) | (with_reducible refine balloc ?_ _) | (with_reducible refine Below.drew ?_) | (with_reducible refine bset ?_ ?_ _) | (with_reducible refine bstep ?_ (by with_reducible assumption)) | (with_reducible refine bturn ?_ (by with_reducible assumption) ?_) | go_size))).size, (show Below w.heap.size w _ by (repeat' (first | (with_reducible exact Below.refl _ _) | (with_reducible assumption) | (with_reducible refine balloc ?_ _) | (with_reducible refine Below.drew ?_) | (with_reducible refine bset ?_ ?_ _) | (with_reducible refine bstep ?_ (by with_reducible assumption)) | (with_reducible refine bturn ?_ (by with_reducible assumption) ?_) | go_size))).block⟩⟩

end Go.Proofs.YtambpkkllgppdaaGreatDoor

namespace Go.Proofs.YtambpkkllgppdaaGreatDoor
open Go.RowKit

/-- The texts of tokens with blanks between. -/
def joinB : List Bs → Bs
  | [] => []
  | [t] => t
  | t :: u :: r => t ++ 32 :: joinB (u :: r)
/-- What is written behind the first i texts. -/
def tailB (i : Nat) (L : List Bs) : Bs := (L.zipIdx i).flatMap fun p => if 0 < p.2 then 32 :: p.1 else p.1
theorem tail_join : ∀ (L : List Bs), tailB 0 L = joinB L
  | [] => rfl
  | t :: r => by
    have gen : ∀ (r : List Bs) (i : Nat), 0 < i → tailB i r = r.flatMap fun t => 32 :: t := by
      intro r
      induction r with
      | nil => intro i _; rfl
      | cons u r ih =>
        intro i hi
        have := ih (i + 1) (by omega)
        unfold tailB at this ⊢
        rw [List.zipIdx_cons, List.flatMap_cons, List.flatMap_cons, this, if_pos hi]
    have hj : ∀ (r : List Bs) (t : Bs), joinB (t :: r) = t ++ r.flatMap fun t => 32 :: t := by
      intro r
      induction r with
      | nil => intro t; simp [joinB]
      | cons u r ih => intro t; rw [joinB, ih u, List.flatMap_cons]; rfl
    have := gen r 1 (by omega)
    rw [hj r t]
    unfold tailB at this ⊢
    rw [List.zipIdx_cons, List.flatMap_cons, this]
    rfl
theorem tail_cons (i : Nat) (t : Bs) (r : List Bs) : tailB i (t :: r) = (if 0 < i then 32 :: t else t) ++ tailB (i + 1) r := by
  unfold tailB
  rw [List.zipIdx_cons, List.flatMap_cons]
theorem isb_below {B b : Nat} {o : Bs} {w w' : World} (h : IsB B b o w) (hb : Below w.heap.size w w') : IsB B b o w' := by
  have key : ∀ p, Lib.BuilderAt 49 5 B b p (Lib.byteCells o) w → Lib.BuilderAt 49 5 B b p (Lib.byteCells o) w' := by
    rintro p ⟨h1, v, h2, h3, h4⟩
    exact ⟨h1, v, (hb.block b (Array.getElem?_eq_some_iff.1 h2).1).trans h2, own_below h3 hb, h4⟩
  rcases h with h | h
  · exact .inl (key _ h)
  · exact .inr (key _ h)

/-- Join of tokens that stand. -/
theorem tm_get {w : World} {A : Option Addr} {L : List Tk} (h : TM w A L) {k : Nat} {t : Tk} (ht : L[k]? = some t) : ∃ g o, A = some ⟨g, o, none⟩ ∧ w.cell? ⟨g, o + k * 6, none⟩ = some (.int .i64 t.k) ∧ w.cell? ⟨g, o + k * 6 + 1, none⟩ = some (.int .i64 (t.a : Int)) ∧ w.cell? ⟨g, o + k * 6 + 2, none⟩ = some (.string (bs t.t)) ∧ w.cell? ⟨g, o + k * 6 + 3, none⟩ = some (.int .i64 t.n) ∧ w.cell? ⟨g, o + k * 6 + 4, none⟩ = some (.int .i64 t.s) ∧ w.cell? ⟨g, o + k * 6 + 5, none⟩ = some (.int .i64 t.m) := by
  obtain ⟨g, o, e, hc⟩ := h k t ht
  exact ⟨g, o, e, hc 0 _ rfl, hc 1 _ rfl, hc 2 _ rfl, hc 3 _ rfl, hc 4 _ rfl, hc 5 _ rfl⟩

  -- JOIN
set_option maxHeartbeats 8000000 in
set_option maxRecDepth 100000 in
theorem join_ok (L : List Tk) (ts : List Bs) (hts : ts.length = L.length) (hL : L.length ≤ 100000) (hlen : (joinB ts).length ≤ 65536) (A : Option Addr) (n c : Nat) (hn : n = L.length) (w : World) (hM : TM w A L)
    (HONE : Hid (∀ (k : Nat) (t : Tk) (u : Bs), L[k]? = some t → ts[k]? = some u → ∀ W, Below w.heap.size w W → Calls Tryz.prog 24 #[.agg #[.int .i64 t.k, .int .i64 (t.a : Int), .string (bs t.t), .int .i64 t.n, .int .i64 t.s, .int .i64 t.m]] W fun e w' => e = .returned (.tuple #[.string (bs u), .bool true]) ∧ Below W.heap.size W w')) :
    Calls Tryz.prog 14 #[.slice A n c] w fun e w' => e = .returned (.tuple #[.string (bs (joinB ts)), .int .i64 0]) ∧ Below w.heap.size w w' := by
  subst hn
  have HB0 := Lib.hid (Lib.fresh_isBuilder 49 5 w)
  obtain ⟨J, hJ⟩ : ∃ J, joinB ts = J := ⟨_, rfl⟩
  rw [hJ] at hlen ⊢
  have HT0 : Hid ([] ++ tailB 0 (ts.drop 0) = J) := Lib.hid (by rw [List.drop_zero, List.nil_append, tail_join, hJ])
  have HM := Lib.hid hM
  have Hts := Lib.hid hts
  clear hJ hM hts
  go_enter Tryz.func14, Tryz.ntmps14
  go_wp2_with fail
  go_loopw [12, 5, 6, 7, 8, 9] (fun i f _ _ _ _ wr => ∃ (k : Nat) (o : Bs), k ≤ L.length ∧ i = .int .i64 (k : Int) ∧ f = .bool false ∧ Hid (o ++ tailB k (ts.drop k) = J) ∧ IsB w.heap.size w.heap.size o wr ∧ Below w.heap.size w wr) (fun i _ _ _ _ _ _ => L.length - (intOf i).toNat)
  case atStart => exact ⟨0, [], by omega, rfl, rfl, HT0, HB0.out, by (repeat' (first | (with_reducible exact Below.refl _ _) | (with_reducible assumption) | (with_reducible refine balloc ?_ _) | (with_reducible refine Below.drew ?_) | (with_reducible refine bset ?_ ?_ _) | (with_reducible refine bstep ?_ (by with_reducible assumption)) | (with_reducible refine bturn ?_ (by with_reducible assumption) ?_) | go_size))⟩
  case round =>
    obtain ⟨k, o, hk, rfl, rfl, HT, hB, hbr⟩ := hrel
    have hsz := hbr.size
    have HB := Lib.hid hB
    clear hB
    by_cases hlt : k < L.length
    · obtain ⟨t, ht⟩ : ∃ t, L[k]? = some t := ⟨_, List.getElem?_eq_getElem hlt⟩
      have hlt2 : k < ts.length := by rw [Hts.out]; exact hlt
      obtain ⟨u, hu⟩ : ∃ u, ts[k]? = some u := ⟨_, List.getElem?_eq_getElem hlt2⟩
      obtain ⟨g, f, rfl, c0, c1, c2, c3, c4, c5⟩ := tm_get (fun i t ht => by
        obtain ⟨g, o, e, hc⟩ := HM.out i t ht
        exact ⟨g, o, e, fun j v hj => keep1 hbr (hc j v hj)⟩ : TM wr A L) ht
      have HO := Lib.hid (HONE.out k t u ht hu)
      obtain ⟨q, hq⟩ : ∃ q, bs (if 0 < k then 32 :: u else u) = q := ⟨_, rfl⟩
      have hql : q.data.toList = if 0 < k then 32 :: u else u := by rw [← hq]; rfl
      have hdr : ts.drop k = u :: ts.drop (k + 1) := by rw [List.drop_eq_getElem_cons hlt2]; rw [List.getElem?_eq_getElem hlt2] at hu; rw [Option.some.inj hu]
      have hT := HT.out
      rw [hdr, tail_cons, ← hql, ← List.append_assoc] at hT
      have HT2 : Hid ((o ++ q.data.toList) ++ tailB (k + 1) (ts.drop (k + 1)) = J) := Lib.hid hT
      have hJl := congrArg List.length hT
      rw [List.length_append, List.length_append, size_list] at hJl
      have hoq : o.length + q.size ≤ 65536 := by omega
      have HLn := Lib.hid (fun W (h : IsB w.heap.size w.heap.size o W) => by
        have := Tryz.Builder_Len w.heap.size w.heap.size (Lib.byteCells o) W h
        rw [Lib.byteCells_length] at this
        exact this)
      have HS := Lib.hid (fun W (h : IsB w.heap.size w.heap.size o W) hw => str_any w.heap.size w.heap.size (Lib.byteCells o) q W h (by rw [Lib.byteCells_length]; omega) hw)
      have HC := Lib.hid (str_cells o q)
      have koq : ¬ (65536 : Int) < (o.length : Int) + (q.size : Int) := by omega
      have kob : decide ((65536 : Int) < (o.length : Int) + (q.size : Int)) = false := decide_eq_false koq
      have koqw : IntKind.i64.wrap ((o.length : Int) + (q.size : Int)) = (o.length : Int) + (q.size : Int) := IntWalk.i64_in _ (by omega)
      have hbr1 : Below w.heap.size w (wr.alloc (.cells #[.int .i64 t.k, .int .i64 (t.a : Int), .string (bs t.t), .int .i64 t.n, .int .i64 t.s, .int .i64 t.m] 38)) := by (repeat' (first | (with_reducible exact Below.refl _ _) | (with_reducible assumption) | (with_reducible refine balloc ?_ _) | (with_reducible refine Below.drew ?_) | (with_reducible refine bset ?_ ?_ _) | (with_reducible refine bstep ?_ (by with_reducible assumption)) | (with_reducible refine bturn ?_ (by with_reducible assumption) ?_) | go_size))
      have HBa := Lib.hid (isb_below HB.out (show Below wr.heap.size wr (wr.alloc (.cells #[.int .i64 t.k, .int .i64 (t.a : Int), .string (bs t.t), .int .i64 t.n, .int .i64 t.s, .int .i64 t.m] 38)) by (repeat' (first | (with_reducible exact Below.refl _ _) | (with_reducible assumption) | (with_reducible refine balloc ?_ _) | (with_reducible refine Below.drew ?_) | (with_reducible refine bset ?_ ?_ _) | (with_reducible refine bstep ?_ (by with_reducible assumption)) | (with_reducible refine bturn ?_ (by with_reducible assumption) ?_) | go_size))))
      clear HB
      have HB := HBa
      clear HBa
      by_cases hk0 : 0 < k
      · have hki : (0 : Int) < (k : Int) := by omega
        rw [if_pos hk0] at hq hql
        have hcat : (⟨#[32]⟩ : ByteArray) ++ bs u = q := by
          rw [← hq]
          apply ByteArray.ext
          apply Array.toList_inj.1
          rw [ByteArray.data_append, Array.toList_append]
          rfl
        have hus : (bs u).size ≤ 65536 := by
          have := congrArg List.length hql
          rw [size_list, List.length_cons] at this
          rw [bs_size]; omega
        clear hT hJl hdr hql ht hu hq hk0
        go_wp2_with fail
        refine (HO.out _ hbr1).mono ?_
        rintro _ w2 ⟨rfl, hb2⟩
        have HB2 := Lib.hid (isb_below HB.out hb2)
        go_wp2_with fail
        refine (HLn.out _ HB2.out).mono ?_
        rintro _ w2 ⟨rfl, rfl⟩
        go_wp2_with fail
        refine (HS.out _ HB2.out (by have := hb2.size; simp at this; omega)).mono ?_
        rintro _ w3 ⟨rfl, hB3, hb3⟩
        rw [HC.out] at hB3
        go_wp2_with fail
        go_roundw
        case rel => exact ⟨k + 1, o ++ q.data.toList, by omega, by go_num, rfl, HT2, .inr hB3, (show Below w.heap.size w w2 from hbr1.trans (hb2.mono (by simp; omega))).trans hb3⟩
        case measure => simp [intOf]; omega
      · obtain rfl : k = 0 := by omega
        rw [if_neg hk0] at hq hql
        simp only [Nat.zero_mul, Nat.add_zero] at c0 c1 c2 c3 c4 c5
        clear hT hJl hdr hql ht hu hk0
        go_wp2_with fail
        refine (HO.out _ hbr1).mono ?_
        rintro _ w2 ⟨rfl, hb2⟩
        have HB2 := Lib.hid (isb_below HB.out hb2)
        go_wp2_with fail
        refine (HLn.out _ HB2.out).mono ?_
        rintro _ w2 ⟨rfl, rfl⟩
        go_wp2_with fail
        refine (HS.out _ HB2.out (by have := hb2.size; simp at this; omega)).mono ?_
        rintro _ w3 ⟨rfl, hB3, hb3⟩
        rw [HC.out] at hB3
        go_wp2_with fail
        go_roundw
        case rel => exact ⟨0 + 1, o ++ q.data.toList, by omega, by go_num, rfl, HT2, .inr hB3, (show Below w.heap.size w w2 from hbr1.trans (hb2.mono (by simp; omega))).trans hb3⟩
        case measure => simp [intOf]; omega
    · obtain rfl : k = L.length := by omega
      have hT := HT.out
      rw [List.drop_of_length_le (by rw [Hts.out]; exact Nat.le_refl _)] at hT
      have HE : Hid (o = J) := Lib.hid (by rw [← hT]; simp [tailB])
      have HSt := Lib.hid (fun W hh => Tryz.Builder_String_any w.heap.size w.heap.size o W hh)
      clear hT
      go_wp2_with fail
      refine (HSt.out _ HB.out (by omega)).mono ?_
      rintro _ w2 ⟨rfl, hb2⟩
      go_wp2_with fail
      go_returns
      exact ⟨by rw [← HE.out]; rfl, hbr.trans hb2⟩
end Go.Proofs.YtambpkkllgppdaaGreatDoor
