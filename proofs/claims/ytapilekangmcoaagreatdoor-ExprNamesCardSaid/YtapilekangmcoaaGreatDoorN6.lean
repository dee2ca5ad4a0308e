/- The walks of chars.letter, chars.Name, slices.Contains of texts, lex.Word. The walks of slices.Contains of texts, lex.words, lex.Word. The walk of lex.one at a token that stands. The walk of lex.Join at tokens that stand. The walks of the small methods of expr.Parser. Rows of structs in memory, whatever their type. The walks of the methods of expr.Parser, in all their ways. The walks of the reference's small functions of package lex: figure, White, Name, Word, quoted. -/
import Derived.Laws.IdiomStrings
import Derived.Deep.LoopGhost
import Derived.Lib.Builder
import Derived.Deep.QuietTactic
import Derived.BigQuiet
import Derived.Test.YtapilekangmcoaaGreatDoorN5
import Derived.Test.YtapilekangmcoaaGreatDoorN3
import Derived.OwnWalk
import Derived.Laws.AppendOwn
set_option linter.unusedVariables false
set_option linter.unusedSimpArgs false
set_option maxHeartbeats 8000000
set_option maxRecDepth 100000
namespace Go.Proofs.YtapilekangmcoaaGreatDoor
open Go.RowKit
def byteW (s : ByteArray) (j : Nat) : UInt8 := s.data.toList.getD j 0
theorem byteW_eq (s : ByteArray) (j : Nat) (h : j < s.size) : byteW s j = s[j] := by
 have h2 : j < s.data.toList.length := by rw [size_list]; exact h
 unfold byteW
 rw [List.getD_eq_getElem?_getD, List.getElem?_eq_getElem h2]
 rfl
def letB (n : Nat) : Bool := decide (97 ≤ n ∧ n ≤ 122 ∨ 65 ≤ n ∧ n ≤ 90 ∨ n = 95)
set_option maxHeartbeats 1000000 in
theorem letter_any (n : Nat) (b : Bool) (hb : letB n = b) (w : World) : Calls Tryz.prog 159 #[.int .u8 (n : Int)] w fun e w' => e = .returned (.bool b) ∧ w = w' := by
 subst hb
 unfold letB
 by_cases g1 : 97 ≤ n ∧ n ≤ 122
 · rw [decide_eq_true (Or.inl g1)]
   have k1 : (97 : Int) ≤ (n : Int) := by omega
   have k2 : (n : Int) ≤ 122 := by omega
   clear g1
   go_enter Tryz.func159, Tryz.ntmps159
   go_wp2
   go_ret
   exact ⟨rfl, rfl⟩
 by_cases g2 : 65 ≤ n ∧ n ≤ 90
 · rw [decide_eq_true (Or.inr (Or.inl g2))]
   have k1 : ¬ (97 : Int) ≤ (n : Int) := by omega
   have k2 : (65 : Int) ≤ (n : Int) := by omega
   have k3 : (n : Int) ≤ 90 := by omega
   clear g1 g2
   go_enter Tryz.func159, Tryz.ntmps159
   go_wp2
   go_ret
   exact ⟨rfl, rfl⟩
 by_cases g3 : n = 95
 · subst g3
   go_enter Tryz.func159, Tryz.ntmps159
   go_wp2
   go_ret
   exact ⟨rfl, rfl⟩
 · rw [decide_eq_false (by rintro (h | h | h); · exact g1 h
                           · exact g2 h
                           · exact g3 h)]
   have e1 : (((n : Nat) : Int) == 95) = false := by simp; omega
   by_cases k1 : 97 ≤ n
   · have k2 : (97 : Int) ≤ (n : Int) := by omega
     have k3 : ¬ (n : Int) ≤ 122 := by omega
     have k4 : (65 : Int) ≤ (n : Int) := by omega
     have k5 : ¬ (n : Int) ≤ 90 := by omega
     clear g1 g2 g3 k1
     go_enter Tryz.func159, Tryz.ntmps159
     go_wp2
     go_ret
     exact ⟨rfl, rfl⟩
   · have k2 : ¬ (97 : Int) ≤ (n : Int) := by omega
     by_cases k3 : 65 ≤ n
     · have k4 : (65 : Int) ≤ (n : Int) := by omega
       have k5 : ¬ (n : Int) ≤ 90 := by omega
       clear g1 g2 g3 k1 k3
       go_enter Tryz.func159, Tryz.ntmps159
       go_wp2
       go_ret
       exact ⟨rfl, rfl⟩
     · have k4 : ¬ (65 : Int) ≤ (n : Int) := by omega
       clear g1 g2 g3 k1 k3
       go_enter Tryz.func159, Tryz.ntmps159
       go_wp2
       go_ret
       exact ⟨rfl, rfl⟩
def nmB (b : UInt8) : Bool := letB b.toNat || decide (48 ≤ b.toNat ∧ b.toNat ≤ 57)
def nameB : Bs → Bool
 | [] => false
 | c :: r => decide ((c :: r).length ≤ 32) && letB c.toNat && (c :: r).all nmB
theorem nameB_cons (c : UInt8) (r : Bs) : nameB (c :: r) = (decide ((c :: r).length ≤ 32) && letB c.toNat && (c :: r).all nmB) := rfl
theorem bytes_at (s : ByteArray) (cap j : Nat) (h : j < s.size) : (bytesRow s cap)[j]? = some (.int .u8 ((s[j].toNat : Nat) : Int)) := bytesRow_at s cap j h
set_option maxHeartbeats 2000000 in
theorem name_any (s : ByteArray) (l : Bs) (hl : s.data.toList = l) (b : Bool) (hb : nameB l = b) (w : World) : Calls Tryz.prog 120 #[.string s] w fun e w' => e = .returned (.bool b) ∧ Below w.heap.size w w' := by
 have hll : l.length = s.size := by rw [← hl, size_list]
 have hcv := fun w s => run_bytes_of_string (P := Tryz.prog) w 9 87 5 s Tryz.underlying9 Tryz.underlying87 Tryz.underlying5
 by_cases h0 : s.size = 0
 · have hl0 : l = [] := List.eq_nil_of_length_eq_zero (by omega)
   subst hl0
   have hs : s = ⟨#[]⟩ := by
     apply ByteArray.ext
     apply Array.toList_inj.1
     rw [hl]
   subst hs
   obtain rfl : b = false := hb.symm
   clear hl hb h0 hcv
   go_enter Tryz.func120, Tryz.ntmps120
   go_wp2
   go_ret
   exact ⟨rfl, by (repeat' first | (with_reducible first | exact .refl _ _ | assumption | apply balloc | apply Below.drew | apply bset | refine bstep ?_ ‹_› | refine bturn ?_ ‹_› ?_) | go_size)⟩
 · obtain ⟨c, r, hcr⟩ : ∃ c r, l = c :: r := by
     cases l with
     | nil => rw [List.length_nil] at hll; omega
     | cons c r => exact ⟨c, r, rfl⟩
   have hp0 : 0 < s.size := by omega
   have hne : s.toList.isEmpty = false := by rw [Lib.toList_data, hl, hcr]; rfl
   have hc : s[0]'hp0 = c := head_of (hl.trans hcr) hp0
   have hv : (((s[0]'hp0).toNat : Nat) : Int) = ((c.toNat : Nat) : Int) := by rw [hc]
   by_cases h32 : 32 < s.size
   · have hb' : b = false := by rw [← hb, hcr]; rw [nameB_cons, decide_eq_false (show ¬ (c :: r).length ≤ 32 by rw [← hcr]; omega)]; rfl
     subst hb'
     have h32i : (32 : Int) < (s.size : Int) := by omega
     clear hl hb hcv hc hv hcr hll
     go_enter Tryz.func120, Tryz.ntmps120
     go_wp2
     go_ret
     exact ⟨rfl, by (repeat' first | (with_reducible first | exact .refl _ _ | assumption | apply balloc | apply Below.drew | apply bset | refine bstep ?_ ‹_› | refine bturn ?_ ‹_› ?_) | go_size)⟩
   have h32i : ¬ (32 : Int) < (s.size : Int) := by omega
   cases hlt : letB c.toNat with
   | false =>
     have hb' : b = false := by rw [← hb, hcr]; rw [nameB_cons]; rw [hlt, Bool.and_false]; rfl
     subst hb'
     have HL := Lib.hid (fun W => letter_any c.toNat false hlt W)
     clear hl hb hcv hc hcr hll hlt
     go_enter Tryz.func120, Tryz.ntmps120
     go_wp2_with fail
     refine (HL.out _).mono ?_
     rintro _ _ ⟨rfl, rfl⟩
     go_wp2
     go_ret
     exact ⟨rfl, by (repeat' first | (with_reducible first | exact .refl _ _ | assumption | apply balloc | apply Below.drew | apply bset | refine bstep ?_ ‹_› | refine bturn ?_ ‹_› ?_) | go_size)⟩
   | true =>
     have hb' : l.all nmB = b := by rw [← hb, hcr]; rw [nameB_cons, hlt, decide_eq_true (show (c :: r).length ≤ 32 by rw [← hcr]; omega)]; rfl
     have HB := Lib.hid hb'
     have HL := Lib.hid (fun W => letter_any c.toNat true hlt W)
     have Hl := Lib.hid hl
     clear hl hb hc hcr hll hlt hb'
     go_enter Tryz.func120, Tryz.ntmps120
     go_wp2_with fail
     refine (HL.out _).mono ?_
     rintro _ _ ⟨rfl, rfl⟩
     go_wp2_with fail
     have hrow : ∀ j, j < s.size → ((w.alloc (.cells (bytesRow s (grownCap w s.size 0 5)) 5 ((bytesRow s (grownCap w s.size 0 5)).size, (bytesRow s (grownCap w s.size 0 5)).size + 1))).drew).cell? ⟨w.heap.size, j, none⟩ = some (.int .u8 (byteW s j).toNat) := by
       intro j hj
       have e : ((w.alloc (.cells (bytesRow s (grownCap w s.size 0 5)) 5 ((bytesRow s (grownCap w s.size 0 5)).size, (bytesRow s (grownCap w s.size 0 5)).size + 1))).drew).heap[w.heap.size]? = some (.cells (bytesRow s (grownCap w s.size 0 5)) 5 ((bytesRow s (grownCap w s.size 0 5)).size, (bytesRow s (grownCap w s.size 0 5)).size + 1)) := by
         show (w.heap.push _)[w.heap.size]? = _
         simp
       rw [Lib.cell_of_heap e, bytes_at s _ j hj, byteW_eq s j hj]
     have hbl : Below w.heap.size w ((w.alloc (.cells (bytesRow s (grownCap w s.size 0 5)) 5 ((bytesRow s (grownCap w s.size 0 5)).size, (bytesRow s (grownCap w s.size 0 5)).size + 1))).drew) := by (repeat' first | (with_reducible first | exact .refl _ _ | assumption | apply balloc | apply Below.drew | apply bset | refine bstep ?_ ‹_› | refine bturn ?_ ‹_› ?_) | go_size)
     generalize ((w.alloc (.cells (bytesRow s (grownCap w s.size 0 5)) 5 ((bytesRow s (grownCap w s.size 0 5)).size, (bytesRow s (grownCap w s.size 0 5)).size + 1))).drew) = W at hrow hbl ⊢
     have HRow := Lib.hid hrow
     clear hrow hcv
     go_loop [21, 4] (fun i _ => ∃ k : Nat, k ≤ s.size ∧ i = .int .i64 (k : Int) ∧ Hid ((s.data.toList.drop k).all nmB = b)) (fun i _ => s.size - (intOf i).toNat)
     case atStart => exact ⟨0, by omega, rfl, Lib.hid (by rw [List.drop_zero, Hl.out]; exact HB.out)⟩
     case round =>
       obtain ⟨k, hk, rfl, HK⟩ := hrel
       by_cases hlt : k < s.size
       · have hcell := HRow.out k hlt
         have hd := byte_drop s k hlt
         have hst := HK.out
         rw [hd, List.all_cons, ← byteW_eq s k hlt] at hst
         obtain ⟨y, hy⟩ : ∃ y, byteW s k = y := ⟨_, rfl⟩
         rw [hy] at hcell hst
         cases hlet : letB y.toNat with
         | true =>
           have HL2 := Lib.hid (fun W => letter_any y.toNat true hlet W)
           have HK2 : Hid ((s.data.toList.drop (k + 1)).all nmB = b) := Lib.hid (by
             rw [← hst]
             have : nmB y = true := by unfold nmB; rw [hlet]; rfl
             rw [this, Bool.true_and])
           clear hd hst hy hlet
           go_wp2_with fail
           refine (HL2.out _).mono ?_
           rintro _ _ ⟨rfl, rfl⟩
           go_wp2_with fail
           go_round
           case rel => exact ⟨k + 1, by omega, by go_num, HK2⟩
           case measure => simp [intOf]; omega
         | false =>
           have HL2 := Lib.hid (fun W => letter_any y.toNat false hlet W)
           by_cases hdg : 48 ≤ y.toNat ∧ y.toNat ≤ 57
           · have HK2 : Hid ((s.data.toList.drop (k + 1)).all nmB = b) := Lib.hid (by
               rw [← hst]
               have : nmB y = true := by unfold nmB; rw [hlet, decide_eq_true hdg]; rfl
               rw [this, Bool.true_and])
             have d1 : ¬ ((y.toNat : Nat) : Int) < 48 := by omega
             have d2 : ¬ (57 : Int) < ((y.toNat : Nat) : Int) := by omega
             clear hd hst hy hlet hdg
             go_wp2_with fail
             refine (HL2.out _).mono ?_
             rintro _ _ ⟨rfl, rfl⟩
             go_wp2_with fail
             go_round
             case rel => exact ⟨k + 1, by omega, by go_num, HK2⟩
             case measure => simp [intOf]; omega
           · have hb' : b = false := by
               rw [← hst]
               have : nmB y = false := by unfold nmB; rw [hlet, decide_eq_false hdg]; rfl
               rw [this, Bool.false_and]
             subst hb'
             by_cases d1 : y.toNat < 48
             · have d1i : ((y.toNat : Nat) : Int) < 48 := by omega
               clear hd hst hy hlet hdg d1
               go_wp2_with fail
               refine (HL2.out _).mono ?_
               rintro _ _ ⟨rfl, rfl⟩
               go_wp2
               go_ret
               exact ⟨rfl, by (repeat' first | (with_reducible first | exact .refl _ _ | assumption | apply balloc | apply Below.drew | apply bset | refine bstep ?_ ‹_› | refine bturn ?_ ‹_› ?_) | go_size)⟩
             · have d1i : ¬ ((y.toNat : Nat) : Int) < 48 := by omega
               have d2 : (57 : Int) < ((y.toNat : Nat) : Int) := by omega
               clear hd hst hy hlet hdg d1
               go_wp2_with fail
               refine (HL2.out _).mono ?_
               rintro _ _ ⟨rfl, rfl⟩
               go_wp2
               go_ret
               exact ⟨rfl, by (repeat' first | (with_reducible first | exact .refl _ _ | assumption | apply balloc | apply Below.drew | apply bset | refine bstep ?_ ‹_› | refine bturn ?_ ‹_› ?_) | go_size)⟩
       · obtain rfl : k = s.size := by omega
         have hst := HK.out
         rw [drop_end s _ (Nat.le_refl _)] at hst
         obtain rfl : b = true := hst.symm
         clear hst
         go_wp2
         go_ret
         exact ⟨rfl, by (repeat' first | (with_reducible first | exact .refl _ _ | assumption | apply balloc | apply Below.drew | apply bset | refine bstep ?_ ‹_› | refine bturn ?_ ‹_› ?_) | go_size)⟩
end Go.Proofs.YtapilekangmcoaaGreatDoor
namespace Go.Proofs.YtapilekangmcoaaGreatDoor
open Go.RowKit
def wordsL : List Bs := [[110, 117, 108, 108], [116, 114, 117, 101], [102, 97, 108, 115, 101], [97, 110, 100], [111, 114], [110, 111, 116], [105, 102], [116, 104, 101, 110], [101, 108, 115, 101]]
def wordB (l : Bs) : Bool := nameB l && !wordsL.contains l
theorem words_any (w : World) : Calls Tryz.prog 122 #[] w fun e w' => (∃ g, e = .returned (.slice (some ⟨g, 0, none⟩) 9 9) ∧ SS w' g wordsL) ∧ Below w.heap.size w w' := by
 go_enter Tryz.func122, Tryz.ntmps122
 go_wp2_with fail
 go_returns
 exact ⟨⟨_, rfl, SS.of_blk (Blk.new _ _ _)⟩, by (repeat' first | (with_reducible first | exact .refl _ _ | assumption | apply balloc | apply Below.drew | apply bset | refine bstep ?_ ‹_› | refine bturn ?_ ‹_› ?_) | go_size)⟩
set_option maxHeartbeats 2000000 in
theorem index_any (L : List Bs) (hL : L.length ≤ 1000) (g c : Nat) (s : ByteArray) (l : Bs) (hl : s.data.toList = l) (b : Bool) (hb : L.contains l = b) (w : World) (hS : SS w g L) :
   Calls Tryz.prog 160 #[.slice (some ⟨g, 0, none⟩) L.length c, .string s] w fun e w' => (∃ i : Int, e = .returned (.int .i64 i) ∧ decide (0 ≤ i) = b) ∧ w = w' := by
 have Hl := Lib.hid hl
 have Hb := Lib.hid hb
 have HS := Lib.hid hS
 clear hl hb hS
 go_enter Tryz.func160, Tryz.ntmps160
 go_wp2_with fail
 go_loop [8, 5] (fun i _ => ∃ k : Nat, k ≤ L.length ∧ i = .int .i64 (k : Int) ∧ Hid ((L.drop k).contains l = b)) (fun i _ => L.length - (intOf i).toNat)
 case atStart => exact ⟨0, by omega, rfl, Lib.hid (by rw [List.drop_zero]; exact Hb.out)⟩
 case round =>
   obtain ⟨k, hk, rfl, HK⟩ := hrel
   by_cases hlt : k < L.length
   · have hc := HS.out k L[k] (List.getElem?_eq_getElem hlt)
     have hd := List.drop_eq_getElem_cons hlt
     have hst := HK.out
     rw [hd, List.contains_cons] at hst
     obtain ⟨q, hq⟩ : ∃ q, L[k] = q := ⟨_, rfl⟩
     rw [hq] at hc hst
     have hE : (s.toList == (bs q).toList) = (l == q) := by rw [Lib.toList_data, Lib.toList_data, Hl.out]; rfl
     cases hlq : (l == q) with
     | true =>
       rw [hlq] at hE hst
       have Hst := Lib.hid (show true = b from by rw [← hst, Bool.true_or])
       clear hst hd hq hlq
       go_wp2_with fail
       go_ret
       exact ⟨⟨k, rfl, by rw [← Hst.out]; exact decide_eq_true (by omega)⟩, rfl⟩
     | false =>
       rw [hlq] at hE hst
       have HK2 : Hid ((L.drop (k + 1)).contains l = b) := Lib.hid (by rw [← hst, Bool.false_or])
       clear hst hd hq hlq
       go_wp2_with fail
       go_round
       case rel => exact ⟨k + 1, by omega, by go_num, HK2⟩
       case measure => simp [intOf]; omega
   · obtain rfl : k = L.length := by omega
     have hst := HK.out
     rw [List.drop_length] at hst
     have Hst := Lib.hid hst
     clear hst
     go_wp2
     go_ret
     exact ⟨⟨-1, rfl, by rw [← Hst.out]; rfl⟩, rfl⟩
theorem contains_any (L : List Bs) (hL : L.length ≤ 1000) (g c : Nat) (s : ByteArray) (l : Bs) (hl : s.data.toList = l) (b : Bool) (hb : L.contains l = b) (w : World) (hS : SS w g L) :
   Calls Tryz.prog 121 #[.slice (some ⟨g, 0, none⟩) L.length c, .string s] w fun e w' => e = .returned (.bool b) ∧ w = w' := by
 have HI := Lib.hid (index_any L hL g c s l hl b hb w hS)
 clear hl hb hS
 go_enter Tryz.func121, Tryz.ntmps121
 go_wp2_with fail
 refine HI.out.mono ?_
 rintro _ _ ⟨⟨i, rfl, hi⟩, rfl⟩
 cases b with
 | true =>
   have h0 := of_decide_eq_true hi
   clear hi
   go_wp2
   go_ret
   exact ⟨rfl, rfl⟩
 | false =>
   have h0 : ¬ 0 ≤ i := of_decide_eq_false hi
   go_wp2
   go_ret
   exact ⟨by first | rfl | (simp; omega), rfl⟩
theorem word_any (s : ByteArray) (l : Bs) (hl : s.data.toList = l) (b : Bool) (hb : wordB l = b) (w : World) : Calls Tryz.prog 79 #[.string s] w fun e w' => e = .returned (.bool b) ∧ Below w.heap.size w w' := by
 unfold wordB at hb
 cases hn : nameB l with
 | false =>
   rw [hn, Bool.false_and] at hb
   subst hb
   have HN := Lib.hid (fun W => name_any s l hl false hn W)
   clear hl hn
   go_enter Tryz.func79, Tryz.ntmps79
   go_wp2_with fail
   refine (HN.out _).mono ?_
   rintro _ w1 ⟨rfl, hw1⟩
   go_wp2
   go_ret
   exact ⟨rfl, by (repeat' first | (with_reducible first | exact .refl _ _ | assumption | apply balloc | apply Below.drew | apply bset | refine bstep ?_ ‹_› | refine bturn ?_ ‹_› ?_) | go_size)⟩
 | true =>
   rw [hn, Bool.true_and] at hb
   have HN := Lib.hid (fun W => name_any s l hl true hn W)
   have HW := Lib.hid (fun W => words_any W)
   obtain ⟨k, hk⟩ : ∃ k, wordsL.contains l = k := ⟨_, rfl⟩
   rw [hk] at hb
   have HC := Lib.hid (fun g W hS => contains_any wordsL (by decide) g 9 s l hl k hk W hS)
   subst hb
   clear hl hn hk
   go_enter Tryz.func79, Tryz.ntmps79
   go_wp2_with fail
   refine (HN.out _).mono ?_
   rintro _ w1 ⟨rfl, hw1⟩
   go_wp2_with fail
   refine (HW.out _).mono ?_
   rintro _ w2 ⟨⟨g, rfl, hS⟩, hw2⟩
   go_wp2_with fail
   refine (HC.out g _ hS).mono ?_
   rintro _ _ ⟨rfl, rfl⟩
   go_wp2
   go_ret
   exact ⟨rfl, by (repeat' first | (with_reducible first | exact .refl _ _ | assumption | apply balloc | apply Below.drew | apply bset | refine bstep ?_ ‹_› | refine bturn ?_ ‹_› ?_) | go_size)⟩
end Go.Proofs.YtapilekangmcoaaGreatDoor
namespace Go.Proofs.YtapilekangmcoaaGreatDoor
open Go.RowKit
def tkeq (a b : Int) (c : ByteArray) (d e f a' b' : Int) (c' : ByteArray) (d' e' f' : Int) : Bool := a == a' && (b == b' && (c.toList == c'.toList && (d == d' && (e == e' && f == f'))))
theorem tkeq_self (a b : Int) (c : ByteArray) (d e f : Int) : tkeq a b c d e f a b c d e f = true := by simp [tkeq]
set_option maxHeartbeats 1000000 in
theorem run_tok_eql (w : World) (a b : Int) (c : ByteArray) (d e f a' b' : Int) (c' : ByteArray) (d' e' f' : Int) :
   (binOp .eql 101 (.agg #[.int .i64 a, .int .i64 b, .string c, .int .i64 d, .int .i64 e, .int .i64 f]) (.agg #[.int .i64 a', .int .i64 b', .string c', .int .i64 d', .int .i64 e', .int .i64 f'])).run Tryz.prog w
     = .ok (.bool (tkeq a b c d e f a' b' c' d' e' f')) w := by
 go_simp
 unfold tkeq
 by_cases h1 : a = a' <;> by_cases h2 : b = b' <;> by_cases h3 : c.toList = c'.toList <;> by_cases h4 : d = d' <;> by_cases h5 : e = e' <;> by_cases h6 : f = f' <;> simp [h1, h2, h3, h4, h5, h6]
set_option maxHeartbeats 1000000 in
theorem run_tok_neq (w : World) (a b : Int) (c : ByteArray) (d e f a' b' : Int) (c' : ByteArray) (d' e' f' : Int) :
   (binOp .neq 101 (.agg #[.int .i64 a, .int .i64 b, .string c, .int .i64 d, .int .i64 e, .int .i64 f]) (.agg #[.int .i64 a', .int .i64 b', .string c', .int .i64 d', .int .i64 e', .int .i64 f'])).run Tryz.prog w
     = .ok (.bool (!tkeq a b c d e f a' b' c' d' e' f')) w := by
 go_simp
 unfold tkeq
 by_cases h1 : a = a' <;> by_cases h2 : b = b' <;> by_cases h3 : c.toList = c'.toList <;> by_cases h4 : d = d' <;> by_cases h5 : e = e' <;> by_cases h6 : f = f' <;> simp [h1, h2, h3, h4, h5, h6]
attribute [local go_sem high] run_tok_eql run_tok_neq tkeq_self
end Go.Proofs.YtapilekangmcoaaGreatDoor
namespace Go.Proofs.YtapilekangmcoaaGreatDoor
open Go.RowKit
theorem isb_below {B b : Nat} {o : Bs} {w w' : World} (h : IsB B b o w) (hb : Below w.heap.size w w') : IsB B b o w' := by
 have key : ∀ p, Lib.BuilderAt 89 5 B b p (Lib.byteCells o) w → Lib.BuilderAt 89 5 B b p (Lib.byteCells o) w' := by
   rintro p ⟨h1, v, h2, h3, h4⟩
   exact ⟨h1, v, (hb.block b (Array.getElem?_eq_some_iff.1 h2).1).trans h2, own_below h3 hb, h4⟩
 rcases h with h | h
 · exact .inl (key _ h)
 · exact .inr (key _ h)
/-- Join of tokens that stand. -/
theorem tm_get {w : World} {A : Option Addr} {L : List Tk} (h : TM w A L) {k : Nat} {t : Tk} (ht : L[k]? = some t) : ∃ g o, A = some ⟨g, o, none⟩ ∧ w.cell? ⟨g, o + k * 6, none⟩ = some (.int .i64 t.k) ∧ w.cell? ⟨g, o + k * 6 + 1, none⟩ = some (.int .i64 (t.a : Int)) ∧ w.cell? ⟨g, o + k * 6 + 2, none⟩ = some (.string (bs t.t)) ∧ w.cell? ⟨g, o + k * 6 + 3, none⟩ = some (.int .i64 t.n) ∧ w.cell? ⟨g, o + k * 6 + 4, none⟩ = some (.int .i64 t.s) ∧ w.cell? ⟨g, o + k * 6 + 5, none⟩ = some (.int .i64 t.m) := by
 obtain ⟨g, o, e, hc⟩ := h k t ht
 exact ⟨g, o, e, hc 0 _ rfl, hc 1 _ rfl, hc 2 _ rfl, hc 3 _ rfl, hc 4 _ rfl, hc 5 _ rfl⟩
 -- JOIN
end Go.Proofs.YtapilekangmcoaaGreatDoor
namespace Go.Proofs.YtapilekangmcoaaGreatDoor
open Go.RowKit
/-- Memory is as it was, but for block b and new blocks. -/
structure Gr (b : Nat) (w w' : World) : Prop where
 os : w'.os = w.os
 tape : w'.tape = w.tape
 output : w'.output = w.output
 size : w.heap.size ≤ w'.heap.size
 block : ∀ k, k < w.heap.size → k ≠ b → w'.heap[k]? = w.heap[k]?
section
variable {b g : Nat} {a w w1 w2 w' : World}
theorem Gr.refl (b : Nat) (w : World) : Gr b w w := ⟨rfl, rfl, rfl, Nat.le_refl _, fun _ _ _ => rfl⟩
theorem Gr.of (h : Below w.heap.size w w') : Gr b w w' := ⟨h.os, h.tape, h.output, h.size, fun k hk _ => h.block k hk⟩
theorem Gr.trans (h : Gr b w w1) (k : Gr b w1 w2) : Gr b w w2 :=
 ⟨k.os.trans h.os, k.tape.trans h.tape, k.output.trans h.output, Nat.le_trans h.size k.size, fun i hi hn => (k.block i (Nat.lt_of_lt_of_le hi h.size) hn).trans (h.block i hi hn)⟩
theorem Gr.bstep (h : Gr b w w1) (k : Below w1.heap.size w1 w2) : Gr b w w2 := h.trans (.of k)
theorem Gr.alloc (h : Gr b w w1) (o : Obj) : Gr b w (w1.alloc o) := h.bstep (balloc (Below.refl _ _) o)
theorem Gr.drew (h : Gr b w w1) : Gr b w w1.drew := ⟨h.os, h.tape, h.output, h.size, h.block⟩
theorem Gr.drewN (h : Gr b w w1) (n : Nat) : Gr b w (w1.drewN n) := ⟨h.os, h.tape, h.output, h.size, h.block⟩
theorem Gr.set (h : Gr b w w1) (i : Nat) (u : Value) : Gr b w (w1.setCell ⟨b, i, none⟩ u) :=
 ⟨h.os, h.tape, h.output, by simpa [World.setCell] using h.size, fun k hk hn => (Below.heap_setCell _ _ _ _ hn).trans (h.block k hk hn)⟩
theorem Gr.far (h : Gr b w w1) {p : Addr} (hp : w.heap.size ≤ p.block) (u : Value) : Gr b w (w1.setCell p u) :=
 ⟨h.os, h.tape, h.output, by simpa [World.setCell] using h.size, fun k hk hn => (Below.heap_setCell _ _ _ _ (by omega)).trans (h.block k hk hn)⟩
theorem Gr.turn (h : Gr b w w1) (ht : Turned w1 w2 b) : Gr b w w2 :=
 ⟨ht.os.trans h.os, ht.tape.trans h.tape, ht.output.trans h.output, by rw [ht.size]; exact h.size, fun k hk hn => (ht.block k hn).trans (h.block k hk hn)⟩
theorem Gr.turnFar (h : Gr b w w1) (ht : Turned w1 w2 g) (hg : w.heap.size ≤ g) : Gr b w w2 :=
 ⟨ht.os.trans h.os, ht.tape.trans h.tape, ht.output.trans h.output, by rw [ht.size]; exact h.size, fun k hk hn => (ht.block k (by omega)).trans (h.block k hk hn)⟩
theorem Gr.below (k : Gr b w w') (h : Below a.heap.size a w) (hb : a.heap.size ≤ b) : Below a.heap.size a w' :=
 ⟨k.os.trans h.os, k.tape.trans h.tape, k.output.trans h.output, Nat.le_trans h.size k.size, fun i hi => (k.block i (Nat.lt_of_lt_of_le hi h.size) (by omega)).trans (h.block i hi)⟩
theorem gcell (h : Gr b w w') : (∀ g o, g < w.heap.size → g ≠ b → w'.cell? ⟨g, o, none⟩ = w.cell? ⟨g, o, none⟩) ∧ (∀ g o, g < w.heap.size → g ≠ b → w'.frozen? ⟨g, o, none⟩ = w.frozen? ⟨g, o, none⟩) :=
 ⟨fun g o h1 h2 => World.cell?_of_block (h.block g h1 h2), fun g o h1 h2 => World.frozen?_of_block (h.block g h1 h2)⟩
theorem Blk.gr {t : TypeId} {cs : Array Value} (h : Blk w g t cs) (k : Gr b w w') (hn : g ≠ b) : Blk w' g t cs := (k.block g h.lt hn).trans h
theorem TM.gr {A : Option Addr} {L : List Tk} (h : TM w A L) (k : Gr b w w') (hn : ∀ (i : Nat) t g o, L[i]? = some t → A = some ⟨g, o, none⟩ → g ≠ b) : TM w' A L := fun i t ht => by
 obtain ⟨g, o, e, hc⟩ := h i t ht
 exact ⟨g, o, e, fun j v hj => ((gcell k).1 g _ (block_lt_of_cell (hc j v hj)) (hn i t g o ht e)).trans (hc j v hj)⟩
end
/-- A parser in memory. -/
structure PB (w : World) (b : Nat) (A : Option Addr) (c : Nat) (p : PS) : Prop where
 blk : Blk w b 56 #[.slice A p.L.length c, .int .i64 (p.nx : Int), .int .i64 (p.en : Int), .int .i64 p.a, .int .i64 p.e, .int .i64 p.md]
 tm : TM w A p.L
 nb : ∀ (i : Nat) t g o, p.L[i]? = some t → A = some ⟨g, o, none⟩ → g ≠ b
 le : p.nx ≤ p.L.length
 big : p.L.length ≤ 100000
section
variable {w w' : World} {b : Nat} {A : Option Addr} {c : Nat} {p : PS}
theorem PB.step (h : PB w b A c p) (hb : Below w.heap.size w w') : PB w' b A c p := ⟨h.blk.step hb, h.tm.step hb, h.nb, h.le, h.big⟩
theorem PB.adv (h : PB w b A c p) (hlt : p.nx < p.L.length) : PB (w.setCell ⟨b, 1, none⟩ (.int .i64 ((p.nx : Int) + 1))) b A c p.adv := by
 refine ⟨?_, h.tm.gr (b := b) ((Gr.refl _ _).set _ _) h.nb, h.nb, hlt, h.big⟩
 have := h.blk.set_ 1 (.int .i64 ((p.nx : Int) + 1))
 simpa [PS.adv] using this
theorem PB.bad (h : PB w b A c p) (he : p.e = 0) (k : Int) : PB ((w.setCell ⟨b, 3, none⟩ (.int .i64 p.at')).setCell ⟨b, 4, none⟩ (.int .i64 k)) b A c (p.fail k) := by
 have e : p.fail k = { p with a := p.at', e := k } := by unfold PS.fail; rw [if_pos he]
 rw [e]
 refine ⟨?_, (h.tm.gr (b := b) ((Gr.refl _ _).set _ _) h.nb).gr (b := b) ((Gr.refl _ _).set _ _) h.nb, h.nb, h.le, h.big⟩
 have := (h.blk.set_ 3 (.int .i64 p.at')).set_ 4 (.int .i64 k)
 simpa using this
theorem PB.nodrew (h : PB w b A c p) : PB w.drew b A c p := ⟨h.blk.drew, h.tm, h.nb, h.le, h.big⟩
end
set_option maxHeartbeats 4000000 in
theorem is_err (b : Nat) (A : Option Addr) (c : Nat) (p : PS) (s : ByteArray) (w : World) (h : PB w b A c p) (he : ¬ p.e = 0) :
   Calls Tryz.prog 74 #[.pointer (some ⟨b, 0, none⟩), .string s] w fun e w' => e = .returned (.bool false) ∧ Below w.heap.size w w' := by
 have heb : (p.e != 0) = true := by simpa using he
 have hbp := (h).blk; obtain ⟨hlp, hllp, qp0, qp1, qp2, qp3, qp4, qp5, zp0, zp1, zp2, zp3, zp4, zp5⟩ := bf6 hbp; (try simp at qp0 qp1 qp2 qp3 qp4 qp5); have Hhbp := Lib.hid hbp; clear hbp
 go_enter Tryz.func74, Tryz.ntmps74
 go_wp2_with fail
 go_quiet (fail)
 go_wp2_with fail
 go_returns
 exact ⟨rfl, by (repeat' first | (with_reducible first | apply bdrewN | exact .refl _ _ | assumption | apply balloc | apply Below.drew | apply bset | refine bstep ?_ ‹_› | refine bturn ?_ ‹_› ?_) | go_size)⟩
set_option maxHeartbeats 4000000 in
theorem is_end (b : Nat) (A : Option Addr) (c : Nat) (p : PS) (s : ByteArray) (w : World) (h : PB w b A c p) (he : p.e = 0) (hn : p.L.length ≤ p.nx) :
   Calls Tryz.prog 74 #[.pointer (some ⟨b, 0, none⟩), .string s] w fun e w' => e = .returned (.bool false) ∧ Below w.heap.size w w' := by
 have hni : (p.L.length : Int) ≤ (p.nx : Int) := by omega
 have hbp := (h).blk; obtain ⟨hlp, hllp, qp0, qp1, qp2, qp3, qp4, qp5, zp0, zp1, zp2, zp3, zp4, zp5⟩ := bf6 hbp; (try simp at qp0 qp1 qp2 qp3 qp4 qp5); have Hhbp := Lib.hid hbp; clear hbp
 rw [he] at qp4
 go_enter Tryz.func74, Tryz.ntmps74
 go_wp2_with fail
 go_quiet (fail)
 go_wp2_with fail
 go_returns
 exact ⟨rfl, by (repeat' first | (with_reducible first | apply bdrewN | exact .refl _ _ | assumption | apply balloc | apply Below.drew | apply bset | refine bstep ?_ ‹_› | refine bturn ?_ ‹_› ?_) | go_size)⟩
set_option maxHeartbeats 4000000 in
theorem is_tok (b : Nat) (A : Option Addr) (c : Nat) (p : PS) (s : ByteArray) (w : World) (h : PB w b A c p) (he : p.e = 0) (t : Tk) (ht : p.L[p.nx]? = some t) (R : Bool) (hR : ((t.k == 4 || t.k == 5) && (bs t.t).toList == s.toList) = R) :
   Calls Tryz.prog 74 #[.pointer (some ⟨b, 0, none⟩), .string s] w fun e w' => e = .returned (.bool R) ∧ Below w.heap.size w w' := by
 have hn : p.nx < p.L.length := (List.getElem?_eq_some_iff.1 ht).1
 have hni : ¬ (p.L.length : Int) ≤ (p.nx : Int) := by omega
 have hni2 : (p.nx : Int) < (p.L.length : Int) := by omega
 have H := Lib.hid h
 have HT := Lib.hid ht
 have HR := Lib.hid hR
 have HE := Lib.hid he
 have hbp := (h).blk; obtain ⟨hlp, hllp, qp0, qp1, qp2, qp3, qp4, qp5, zp0, zp1, zp2, zp3, zp4, zp5⟩ := bf6 hbp; (try simp at qp0 qp1 qp2 qp3 qp4 qp5); have Hhbp := Lib.hid hbp; clear hbp
 rw [he] at qp4
 clear h ht hR he hn
 go_enter Tryz.func74, Tryz.ntmps74
 go_wp2_with fail
 go_quiet (fail)
 have hb1 : Below (w).heap.size (w) ((w).drewN nq) := bdrewN (Below.refl _ _) nq; generalize (w).drewN nq = w1 at *; have hz1 := hb1.size
 clear qp0 zp0 qp1 zp1 qp2 zp2 qp3 zp3 qp4 zp4 qp5 zp5 hlp hllp Hhbp
 have h1 := H.out.step hb1
 obtain ⟨g, f, rfl, c0, c1, c2, c3, c4, c5⟩ := tm_get h1.tm HT.out
 have hlg : g < w1.heap.size := block_lt_of_cell c0
 have hllg := lts hlg
 obtain ⟨q, hq⟩ : ∃ q, bs t.t = q := ⟨_, rfl⟩
 rw [hq] at c2
 have hbr := (h1).blk; obtain ⟨hlr, hllr, qr0, qr1, qr2, qr3, qr4, qr5, zr0, zr1, zr2, zr3, zr4, zr5⟩ := bf6 hbr; (try simp at qr0 qr1 qr2 qr3 qr4 qr5); have Hhbr := Lib.hid hbr; clear hbr
 rw [HE.out] at qr4
 clear h1
 go_wp2_with fail
 go_region
 all_goals
   clear hllr hllg hz1
   go_wp2_with fail
   all_goals
     go_returns
     refine ⟨?_, by (repeat' first | (with_reducible first | apply bdrewN | exact .refl _ _ | assumption | apply balloc | apply Below.drew | apply bset | refine bstep ?_ ‹_› | refine bturn ?_ ‹_› ?_) | go_size)⟩
     rw [← HR.out, hq]
     simp [*]
end Go.Proofs.YtapilekangmcoaaGreatDoor
namespace Go.Proofs.YtapilekangmcoaaGreatDoor
open Go.RowKit Go.Shelf
section
variable {α : Type} {cl : α → List Value} {n : Nat}
/-- A row of structs, each of n cells. -/
def RM (cl : α → List Value) (n : Nat) (w : World) (A : Option Addr) (L : List α) : Prop := ∀ i t, L[i]? = some t → ∃ g o, A = some ⟨g, o, none⟩ ∧ ∀ j v, (cl t)[j]? = some v → w.cell? ⟨g, o + i * n + j, none⟩ = some v
theorem RM.step {w w' : World} {A : Option Addr} {L : List α} (h : RM cl n w A L) (hb : Below w.heap.size w w') : RM cl n w' A L := fun i t ht => by
 obtain ⟨g, o, e, hc⟩ := h i t ht
 exact ⟨g, o, e, fun j v hj => keep1 hb (hc j v hj)⟩
theorem RM.nil (w : World) (A : Option Addr) : RM cl n w A [] := fun i t h => by simp at h
theorem RM.gr {b : Nat} {w w' : World} {A : Option Addr} {L : List α} (h : RM cl n w A L) (k : Gr b w w') (hn : ∀ g o, A = some ⟨g, o, none⟩ → g ≠ b) : RM cl n w' A L := fun i t ht => by
 obtain ⟨g, o, e, hc⟩ := h i t ht
 exact ⟨g, o, e, fun j v hj => ((gcell k).1 g _ (block_lt_of_cell (hc j v hj)) (hn g o e)).trans (hc j v hj)⟩
def rowL (cl : α → List Value) (L : List α) : List Value := L.flatMap cl
theorem rowL_len (hcl : ∀ t, (cl t).length = n) (L : List α) : (rowL cl L).length = L.length * n := by
 induction L with
 | nil => simp [rowL]
 | cons t L ih =>
   show (cl t ++ rowL cl L).length = _
   rw [List.length_append, ih, hcl, List.length_cons, Nat.succ_mul, Nat.add_comm]
theorem rowL_app (L M : List α) : rowL cl (L ++ M) = rowL cl L ++ rowL cl M := by simp [rowL]
theorem rowL_get (hcl : ∀ t, (cl t).length = n) : ∀ (L : List α) (i : Nat) (t : α) (j : Nat) (v : Value), L[i]? = some t → (cl t)[j]? = some v → (rowL cl L)[i * n + j]? = some v
 | [], i, t, j, v, h, _ => by simp at h
 | s :: L, 0, t, j, v, h, hj => by
   obtain rfl : s = t := by simpa using h
   have hl : j < (cl s).length := (List.getElem?_eq_some_iff.1 hj).1
   show (cl s ++ rowL cl L)[0 * n + j]? = some v
   rw [Nat.zero_mul, Nat.zero_add, List.getElem?_append_left hl]
   exact hj
 | s :: L, i + 1, t, j, v, h, hj => by
   have hs := hcl s
   show (cl s ++ rowL cl L)[(i + 1) * n + j]? = some v
   have he : (i + 1) * n = i * n + n := Nat.succ_mul i n
   rw [List.getElem?_append_right (by omega), hs, show (i + 1) * n + j - n = i * n + j by omega]
   exact rowL_get hcl L i t j v (by simpa using h) hj
theorem own_rm {w : World} {T : TypeId} {base k : Nat} {v : Value} {L : List α} (hcl : ∀ t, (cl t).length = n) (h : w.ownsRow base T n v k (rowL cl L)) (hn : k = L.length) : ∃ A c, v = .slice A k c ∧ RM cl n w A L ∧ k ≤ c ∧ c ≤ maxLen ∧ ∀ g o, A = some ⟨g, o, none⟩ → base ≤ g := by
 rcases h.2 with ⟨hv, h0⟩ | ⟨g, cap, cur, hv, hb, _, hnc, hcm, _⟩
 · have hL : L = [] := List.eq_nil_of_length_eq_zero (by omega)
   subst hL
   exact ⟨none, 0, by rw [hv, h0], RM.nil _ _, by omega, by unfold maxLen; omega, fun g o h => by cases h⟩
 · refine ⟨_, _, hv, fun i t ht => ⟨g, 0, rfl, fun j u hj => ?_⟩, hnc, hcm, fun g' o' e => ?_⟩
   · have := h.cells (g := g) (by rw [hv]; rfl) (i * n + j) u (rowL_get hcl L i t j u ht hj)
     rw [Nat.zero_add]
     have e : (⟨g, 0, none⟩ : Addr).add (i * n + j) = ⟨g, i * n + j, none⟩ := by unfold Addr.add; split <;> simp_all
     rw [e] at this
     exact this
   · injection e with e
     injection e with e1 e2
     omega
end
section
variable {w0 w w1 w2 : World} {b : Nat} {row : Option Nat}
theorem Gr.grown (h : Gr b w w1) (k : w1.grownBy w2 row) (hr : ∀ g, row = some g → w.heap.size ≤ g) : Gr b w w2 :=
 ⟨k.os.trans h.os, k.tape.trans h.tape, k.output.trans h.output, Nat.le_trans h.size k.size, fun i hi hn => (k.block i (Nat.lt_of_lt_of_le hi h.size) (fun e => by have := hr i e.symm; omega)).trans (h.block i hi hn)⟩
theorem Blk.grown {g : Nat} {t : TypeId} {cs : Array Value} (h : Blk w1 g t cs) (k : w1.grownBy w2 row) (hn : some g ≠ row) : Blk w2 g t cs := (k.block g h.lt hn).trans h
theorem PB.grown {A : Option Addr} {c : Nat} {p0 p : PS} (h0 : PB w0 b A c p0) (hL : p0.L = p.L) (h : PB w1 b A c p) (k : w1.grownBy w2 row) (hr : ∀ g, row = some g → w0.heap.size ≤ g) : PB w2 b A c p := by
 refine ⟨h.blk.grown k fun e => by have := hr b e.symm; have := h0.blk.lt; omega, fun i t ht => ?_, h.nb, h.le, h.big⟩
 obtain ⟨g, o, e, hc⟩ := h.tm i t ht
 refine ⟨g, o, e, fun j v hj => k.cell (hc j v hj) fun e2 => ?_⟩
 obtain ⟨g2, o2, e3, hc2⟩ := h0.tm i t (by rw [hL]; exact ht)
 rw [e] at e3
 injection e3 with e3
 injection e3 with e4 e5
 have h1 := block_lt_of_cell (hc2 0 _ rfl)
 have h2 := hr g e2.symm
 simp only at h1
 omega
end
def lenOf : Value → Nat
 | .slice _ n _ => n
 | _ => 0
end Go.Proofs.YtapilekangmcoaaGreatDoor
namespace Go.Proofs.YtapilekangmcoaaGreatDoor
open Go.RowKit
theorem is_any (b : Nat) (A : Option Addr) (c : Nat) (p : PS) (l : Bs) (w : World) (h : PB w b A c p) :
   Calls Tryz.prog 74 #[.pointer (some ⟨b, 0, none⟩), .string (bs l)] w fun e w' => e = .returned (.bool (p.isS l)) ∧ Below w.heap.size w w' := by
 by_cases he : p.e = 0
 · cases ht : p.L[p.nx]? with
   | none =>
     rw [isS_none ht]
     exact is_end b A c p (bs l) w h he (List.getElem?_eq_none_iff.1 ht)
   | some t =>
     rw [isS_some he ht]
     refine is_tok b A c p (bs l) w h he t ht _ ?_
     rw [Lib.toList_data, Lib.toList_data]
     rfl
 · rw [isS_err he]
   exact is_err b A c p (bs l) w h he
theorem isS_ltw {p : PS} {s : Bs} (h : p.isS s = true) : p.nx < p.L.length ∧ p.e = 0 := by
 unfold PS.isS at h
 rw [Bool.and_eq_true] at h
 refine ⟨?_, by simpa using h.1⟩
 cases ht : p.L[p.nx]? with
 | none => rw [ht] at h; cases h.2
 | some t => exact (List.getElem?_eq_some_iff.1 ht).1
set_option maxHeartbeats 4000000 in
theorem take_any (b : Nat) (A : Option Addr) (c : Nat) (p : PS) (l : Bs) (w : World) (h : PB w b A c p) :
   Calls Tryz.prog 47 #[.pointer (some ⟨b, 0, none⟩), .string (bs l)] w fun e w' => e = .returned (.bool (p.isS l)) ∧ PB w' b A c (p.take l) ∧ Gr b w w' := by
 have H := Lib.hid h
 have H1 := Lib.hid (is_any b A c p l w h)
 obtain ⟨s, hs⟩ : ∃ s, bs l = s := ⟨_, rfl⟩
 rw [hs] at H1 ⊢
 cases hi : p.isS l with
 | false =>
   have ht : p.take l = p := by unfold PS.take; rw [hi]; rfl
   rw [ht]
   rw [hi] at H1
   clear h hi ht
   go_enter Tryz.func47, Tryz.ntmps47
   go_wp2_with fail
   refine H1.out.mono ?_
   rintro e w1 ⟨rfl, hb1⟩
   go_wp2_with fail
   go_returns
   exact ⟨rfl, H.out.step hb1, .of hb1⟩
 | true =>
   have ht : p.take l = p.adv := by unfold PS.take; rw [hi]; rfl
   have hlt := (isS_ltw hi).1
   have hnx : IntKind.i64.wrap ((p.nx : Int) + 1) = (p.nx : Int) + 1 := IntWalk.i64_in _ (by have := h.big; omega)
   rw [ht]
   rw [hi] at H1
   have HL := Lib.hid hlt
   clear h hi ht hlt
   go_enter Tryz.func47, Tryz.ntmps47
   go_wp2_with fail
   refine H1.out.mono ?_
   rintro e w1 ⟨rfl, hb1⟩
   have h1 := H.out.step hb1
   have H2 := Lib.hid h1
   have hbr := (h1).blk; obtain ⟨hlr, hllr, qr0, qr1, qr2, qr3, qr4, qr5, zr0, zr1, zr2, zr3, zr4, zr5⟩ := bf6 hbr; (try simp at qr0 qr1 qr2 qr3 qr4 qr5); have Hhbr := Lib.hid hbr; clear hbr
   clear h1
   go_wp2_with fail
   go_returns
   exact ⟨rfl, H2.out.adv HL.out, by (repeat' (first | (with_reducible exact Gr.refl _ _) | (with_reducible assumption) | (with_reducible refine Gr.alloc ?_ _) | (with_reducible refine Gr.drew ?_) | (with_reducible refine Gr.drewN ?_ _) | (with_reducible refine Gr.set ?_ _ _) | (with_reducible refine Gr.far ?_ ?_ _) | (with_reducible refine Gr.trans ?_ (by with_reducible assumption)) | (with_reducible refine Gr.bstep ?_ (by with_reducible assumption)) | (with_reducible refine Gr.turn ?_ (by with_reducible assumption)) | (with_reducible refine Gr.turnFar ?_ (by with_reducible assumption) ?_) | go_size | ((try simp only [World.size_alloc, World.size_setCell, World.size_drew]); omega)))⟩
set_option maxHeartbeats 4000000 in
theorem where_any (b : Nat) (A : Option Addr) (c : Nat) (p : PS) (w : World) (h : PB w b A c p) :
   Calls Tryz.prog 51 #[.pointer (some ⟨b, 0, none⟩)] w fun e w' => e = .returned (.int .i64 p.at') ∧ Below w.heap.size w w' := by
 have H := Lib.hid h
 cases ht : p.L[p.nx]? with
 | none =>
   have hn : p.L.length ≤ p.nx := List.getElem?_eq_none_iff.1 ht
   have hni : ¬ (p.nx : Int) < (p.L.length : Int) := by omega
   have ha : p.at' = (p.en : Int) := by unfold PS.at'; rw [ht]
   rw [ha]
   have hbp := (h).blk; obtain ⟨hlp, hllp, qp0, qp1, qp2, qp3, qp4, qp5, zp0, zp1, zp2, zp3, zp4, zp5⟩ := bf6 hbp; (try simp at qp0 qp1 qp2 qp3 qp4 qp5); have Hhbp := Lib.hid hbp; clear hbp
   clear h ht hn ha
   go_enter Tryz.func51, Tryz.ntmps51
   go_wp2_with fail
   go_quiet (fail)
   go_wp2_with fail
   go_returns
   exact ⟨rfl, by (repeat' first | (with_reducible first | apply bdrewN | exact .refl _ _ | assumption | apply balloc | apply Below.drew | apply bset | refine bstep ?_ ‹_› | refine bturn ?_ ‹_› ?_) | go_size)⟩
 | some t =>
   have hn : p.nx < p.L.length := (List.getElem?_eq_some_iff.1 ht).1
   have hni : (p.nx : Int) < (p.L.length : Int) := by omega
   have ha : p.at' = (t.a : Int) := by unfold PS.at'; rw [ht]
   rw [ha]
   have HT := Lib.hid ht
   have hbp := (h).blk; obtain ⟨hlp, hllp, qp0, qp1, qp2, qp3, qp4, qp5, zp0, zp1, zp2, zp3, zp4, zp5⟩ := bf6 hbp; (try simp at qp0 qp1 qp2 qp3 qp4 qp5); have Hhbp := Lib.hid hbp; clear hbp
   clear h ht hn ha
   go_enter Tryz.func51, Tryz.ntmps51
   go_wp2_with fail
   go_quiet (fail)
   have hb1 : Below (w).heap.size (w) ((w).drewN nq) := bdrewN (Below.refl _ _) nq; generalize (w).drewN nq = w1 at *; have hz1 := hb1.size
   clear qp0 zp0 qp1 zp1 qp2 zp2 qp3 zp3 qp4 zp4 qp5 zp5 hlp hllp Hhbp
   have h1 := H.out.step hb1
   obtain ⟨g, f, rfl, c0, c1, c2, c3, c4, c5⟩ := tm_get h1.tm HT.out
   have hbr := (h1).blk; obtain ⟨hlr, hllr, qr0, qr1, qr2, qr3, qr4, qr5, zr0, zr1, zr2, zr3, zr4, zr5⟩ := bf6 hbr; (try simp at qr0 qr1 qr2 qr3 qr4 qr5); have Hhbr := Lib.hid hbr; clear hbr
   clear h1
   go_wp2_with fail
   go_quiet (fail)
   go_wp2_with fail
   go_returns
   exact ⟨rfl, bdrewN hb1 _⟩
set_option maxHeartbeats 4000000 in
theorem fail_any (b : Nat) (A : Option Addr) (c : Nat) (p : PS) (k : Int) (w : World) (h : PB w b A c p) :
   Calls Tryz.prog 27 #[.pointer (some ⟨b, 0, none⟩), .int .i64 k] w fun e w' => e = .returned (.tuple #[]) ∧ PB w' b A c (p.fail k) ∧ Gr b w w' := by
 have H := Lib.hid h
 by_cases he : p.e = 0
 · have H1 := Lib.hid (where_any b A c p w h)
   have HE := Lib.hid he
   have hbp := (h).blk; obtain ⟨hlp, hllp, qp0, qp1, qp2, qp3, qp4, qp5, zp0, zp1, zp2, zp3, zp4, zp5⟩ := bf6 hbp; (try simp at qp0 qp1 qp2 qp3 qp4 qp5); have Hhbp := Lib.hid hbp; clear hbp
   rw [he] at qp4
   clear h he
   go_enter Tryz.func27, Tryz.ntmps27
   go_wp2_with fail
   refine H1.out.mono ?_
   rintro e w1 ⟨rfl, hb1⟩
   have h1 := H.out.step hb1
   have H2 := Lib.hid h1
   clear qp0 zp0 qp1 zp1 qp2 zp2 qp3 zp3 qp4 zp4 qp5 zp5 hlp hllp Hhbp
   have hbr := (h1).blk; obtain ⟨hlr, hllr, qr0, qr1, qr2, qr3, qr4, qr5, zr0, zr1, zr2, zr3, zr4, zr5⟩ := bf6 hbr; (try simp at qr0 qr1 qr2 qr3 qr4 qr5); have Hhbr := Lib.hid hbr; clear hbr
   clear h1
   go_wp2_with fail
   go_returns
   exact ⟨rfl, H2.out.bad HE.out k, by (repeat' (first | (with_reducible exact Gr.refl _ _) | (with_reducible assumption) | (with_reducible refine Gr.alloc ?_ _) | (with_reducible refine Gr.drew ?_) | (with_reducible refine Gr.drewN ?_ _) | (with_reducible refine Gr.set ?_ _ _) | (with_reducible refine Gr.far ?_ ?_ _) | (with_reducible refine Gr.trans ?_ (by with_reducible assumption)) | (with_reducible refine Gr.bstep ?_ (by with_reducible assumption)) | (with_reducible refine Gr.turn ?_ (by with_reducible assumption)) | (with_reducible refine Gr.turnFar ?_ (by with_reducible assumption) ?_) | go_size | ((try simp only [World.size_alloc, World.size_setCell, World.size_drew]); omega)))⟩
 · have hf : p.fail k = p := by unfold PS.fail; rw [if_neg he]
   rw [hf]
   have hbp := (h).blk; obtain ⟨hlp, hllp, qp0, qp1, qp2, qp3, qp4, qp5, zp0, zp1, zp2, zp3, zp4, zp5⟩ := bf6 hbp; (try simp at qp0 qp1 qp2 qp3 qp4 qp5); have Hhbp := Lib.hid hbp; clear hbp
   clear h hf
   go_enter Tryz.func27, Tryz.ntmps27
   go_wp2_with fail
   go_returns
   exact ⟨rfl, H.out, by (repeat' (first | (with_reducible exact Gr.refl _ _) | (with_reducible assumption) | (with_reducible refine Gr.alloc ?_ _) | (with_reducible refine Gr.drew ?_) | (with_reducible refine Gr.drewN ?_ _) | (with_reducible refine Gr.set ?_ _ _) | (with_reducible refine Gr.far ?_ ?_ _) | (with_reducible refine Gr.trans ?_ (by with_reducible assumption)) | (with_reducible refine Gr.bstep ?_ (by with_reducible assumption)) | (with_reducible refine Gr.turn ?_ (by with_reducible assumption)) | (with_reducible refine Gr.turnFar ?_ (by with_reducible assumption) ?_) | go_size | ((try simp only [World.size_alloc, World.size_setCell, World.size_drew]); omega)))⟩
set_option maxHeartbeats 4000000 in
theorem need_any (b : Nat) (A : Option Addr) (c : Nat) (p : PS) (l : Bs) (w : World) (h : PB w b A c p) :
   Calls Tryz.prog 49 #[.pointer (some ⟨b, 0, none⟩), .string (bs l)] w fun e w' => e = .returned (.tuple #[]) ∧ PB w' b A c (p.need l) ∧ Gr b w w' := by
 have H1 := Lib.hid (take_any b A c p l w h)
 have HF := Lib.hid (fail_any b A c p 5)
 obtain ⟨s, hs⟩ : ∃ s, bs l = s := ⟨_, rfl⟩
 rw [hs] at H1 ⊢
 cases hi : p.isS l with
 | false =>
   have ht : p.take l = p := by unfold PS.take; rw [hi]; rfl
   have hn : p.need l = p.fail 5 := by unfold PS.need; rw [hi]; rfl
   rw [hn]
   rw [hi, ht] at H1
   clear h hi ht hn hs
   go_enter Tryz.func49, Tryz.ntmps49
   go_wp2_with fail
   refine H1.out.mono ?_
   rintro e w1 ⟨rfl, h1, g1⟩
   have H2 := Lib.hid (HF.out w1 h1)
   go_wp2_with fail
   refine H2.out.mono ?_
   rintro e w2 ⟨rfl, h2, g2⟩
   go_wp2_with fail
   go_returns
   exact ⟨rfl, h2, g1.trans g2⟩
 | true =>
   have ht : p.take l = p.adv := by unfold PS.take; rw [hi]; rfl
   have hn : p.need l = p.adv := by unfold PS.need; rw [hi]; rfl
   rw [hn]
   rw [hi, ht] at H1
   clear h hi ht hn hs
   go_enter Tryz.func49, Tryz.ntmps49
   go_wp2_with fail
   refine H1.out.mono ?_
   rintro e w1 ⟨rfl, h1, g1⟩
   go_wp2_with fail
   go_returns
   exact ⟨rfl, h1, g1⟩
set_option maxHeartbeats 4000000 in
theorem error_any (b : Nat) (A : Option Addr) (c : Nat) (p : PS) (w : World) (h : PB w b A c p) :
   Calls Tryz.prog 28 #[.pointer (some ⟨b, 0, none⟩)] w fun e w' => e = .returned (.tuple #[.int .i64 p.a, .int .i64 p.e]) ∧ Below w.heap.size w w' := by
 have hbp := (h).blk; obtain ⟨hlp, hllp, qp0, qp1, qp2, qp3, qp4, qp5, zp0, zp1, zp2, zp3, zp4, zp5⟩ := bf6 hbp; (try simp at qp0 qp1 qp2 qp3 qp4 qp5); have Hhbp := Lib.hid hbp; clear hbp
 clear h
 go_enter Tryz.func28, Tryz.ntmps28
 go_wp2_with fail
 go_quiet (fail)
 go_wp2_with fail
 go_returns
 exact ⟨rfl, by (repeat' first | (with_reducible first | apply bdrewN | exact .refl _ _ | assumption | apply balloc | apply Below.drew | apply bset | refine bstep ?_ ‹_› | refine bturn ?_ ‹_› ?_) | go_size)⟩
set_option maxHeartbeats 4000000 in
theorem ended_any (b : Nat) (A : Option Addr) (c : Nat) (p : PS) (w : World) (h : PB w b A c p) :
   Calls Tryz.prog 26 #[.pointer (some ⟨b, 0, none⟩)] w fun e w' => e = .returned (.bool p.ended) ∧ Below w.heap.size w w' := by
 by_cases he : p.e = 0
 · have hE : p.ended = decide (p.nx = p.L.length) := by unfold PS.ended; rw [he]; rfl
   rw [hE]
   have hbp := (h).blk; obtain ⟨hlp, hllp, qp0, qp1, qp2, qp3, qp4, qp5, zp0, zp1, zp2, zp3, zp4, zp5⟩ := bf6 hbp; (try simp at qp0 qp1 qp2 qp3 qp4 qp5); have Hhbp := Lib.hid hbp; clear hbp
   rw [he] at qp4
   clear h he hE
   go_enter Tryz.func26, Tryz.ntmps26
   go_wp2_with fail
   go_quiet (fail)
   go_wp2_with fail
   go_returns
   refine ⟨?_, by (repeat' first | (with_reducible first | apply bdrewN | exact .refl _ _ | assumption | apply balloc | apply Below.drew | apply bset | refine bstep ?_ ‹_› | refine bturn ?_ ‹_› ?_) | go_size)⟩
   have hd : ((p.nx : Int) == (p.L.length : Int)) = decide (p.nx = p.L.length) := by
     by_cases hq : p.nx = p.L.length
     · simp [hq]
     · simp [hq]
       omega
   show Ending.returned (Value.bool ((p.nx : Int) == (p.L.length : Int))) = _
   rw [hd]
 · have hE : p.ended = false := by unfold PS.ended; simp [he]
   rw [hE]
   have heb : (p.e == 0) = false := by simpa using he
   have hbp := (h).blk; obtain ⟨hlp, hllp, qp0, qp1, qp2, qp3, qp4, qp5, zp0, zp1, zp2, zp3, zp4, zp5⟩ := bf6 hbp; (try simp at qp0 qp1 qp2 qp3 qp4 qp5); have Hhbp := Lib.hid hbp; clear hbp
   clear h hE
   go_enter Tryz.func26, Tryz.ntmps26
   go_wp2_with fail
   go_quiet (fail)
   go_wp2_with fail
   go_returns
   exact ⟨rfl, by (repeat' first | (with_reducible first | apply bdrewN | exact .refl _ _ | assumption | apply balloc | apply Below.drew | apply bset | refine bstep ?_ ‹_› | refine bturn ?_ ‹_› ?_) | go_size)⟩
end Go.Proofs.YtapilekangmcoaaGreatDoor
namespace Go.Proofs.YtapilekangmcoaaGreatDoor
open Go.RowKit
def nmK : Nat → Bs → Bool
 | _, [] => true
 | k, c :: r => (letB c.toNat || (!(k == 0) && decide (48 ≤ c.toNat ∧ c.toNat ≤ 57))) && nmK (k + 1) r
theorem nmK_all (k : Nat) (l : Bs) : nmK (k + 1) l = l.all nmB := by
 induction l generalizing k with
 | nil => rfl
 | cons c r ih => rw [nmK, List.all_cons, ih]; simp [nmB]
theorem nameB_nmK (c : UInt8) (r : Bs) : nameB (c :: r) = (decide ((c :: r).length ≤ 32) && nmK 0 (c :: r)) := by
 rw [nameB_cons, nmK, nmK_all, List.all_cons]
 cases h : letB c.toNat <;> simp [nmB, h]
theorem nmK_cons (k : Nat) (c : UInt8) (r : Bs) : nmK k (c :: r) = ((letB c.toNat || (!(k == 0) && decide (48 ≤ c.toNat ∧ c.toNat ≤ 57))) && nmK (k + 1) r) := rfl
theorem rname_any (s : ByteArray) (l : Bs) (hl : s.data.toList = l) (b : Bool) (hb : nameB l = b) (w : World) : Calls Tryz.prog 105 #[.string s] w fun e w' => e = .returned (.bool b) ∧ w = w' := by
 have hll : l.length = s.size := by rw [← hl, size_list]
 by_cases h0 : s.size = 0
 · have hl0 : l = [] := List.eq_nil_of_length_eq_zero (by omega)
   subst hl0
   have hs : s = ⟨#[]⟩ := by
     apply ByteArray.ext
     apply Array.toList_inj.1
     rw [hl]
   subst hs
   obtain rfl : b = false := hb.symm
   clear hl hb h0
   go_enter Tryz.func105, Tryz.ntmps105
   go_wp2
   go_ret
   exact ⟨rfl, rfl⟩
 · obtain ⟨c, r, hcr⟩ : ∃ c r, l = c :: r := by
     cases l with
     | nil => rw [List.length_nil] at hll; omega
     | cons c r => exact ⟨c, r, rfl⟩
   have hp0 : 0 < s.size := by omega
   have hne : s.toList.isEmpty = false := by rw [Lib.toList_data, hl, hcr]; rfl
   by_cases h32 : 32 < s.size
   · have hb' : b = false := by rw [← hb, hcr]; rw [nameB_cons, decide_eq_false (show ¬ (c :: r).length ≤ 32 by rw [← hcr]; omega)]; rfl
     subst hb'
     have h32i : (32 : Int) < (s.size : Int) := by omega
     clear hl hb hcr hll
     go_enter Tryz.func105, Tryz.ntmps105
     go_wp2
     go_ret
     exact ⟨rfl, rfl⟩
   have h32i : ¬ (32 : Int) < (s.size : Int) := by omega
   have HB : Hid (nmK 0 s.data.toList = b) := Lib.hid (by
     rw [hl, ← hb, hcr, nameB_nmK, decide_eq_true (show (c :: r).length ≤ 32 by rw [← hcr]; omega), Bool.true_and])
   clear hl hb hcr hll
   go_enter Tryz.func105, Tryz.ntmps105
   go_wp2_with fail
   go_loop [3] (fun i => ∃ k : Nat, k ≤ s.size ∧ i = .int .i64 (k : Int) ∧ Hid (nmK k (s.data.toList.drop k) = b)) (fun i => s.size - (intOf i).toNat)
   case atStart => exact ⟨0, by omega, rfl, Lib.hid (by rw [List.drop_zero]; exact HB.out)⟩
   case round =>
     obtain ⟨k, hk, rfl, HK⟩ := hrel
     by_cases hlt : k < s.size
     · have hd := byte_drop s k hlt
       have hst := HK.out
       rw [hd, nmK_cons] at hst
       obtain ⟨y, hy⟩ : ∃ y, s[k]'hlt = y := ⟨_, rfl⟩
       have hyv : (((s[k]'hlt).toNat : Nat) : Int) = ((y.toNat : Nat) : Int) := by rw [hy]
       rw [hy] at hst
       obtain ⟨n, hn⟩ : ∃ n, y.toNat = n := ⟨_, rfl⟩
       rw [hn] at hst hyv
       clear hd hy hn
       by_cases g1 : 97 ≤ n ∧ n ≤ 122
       · obtain ⟨g1, g2⟩ := g1
         have HK2 : Hid (nmK (k + 1) (s.data.toList.drop (k + 1)) = b) := Lib.hid (by
           rw [← hst, show letB n = true from decide_eq_true (by omega)]; rfl)
         have f0 : (97 : Int) ≤ (n : Int) := by omega
         have f1 : (n : Int) ≤ 122 := by omega
         clear hst
         go_wp2_with fail
         go_round
         case rel => exact ⟨k + 1, by omega, by go_num, HK2⟩
         case measure => simp [intOf]; omega
       by_cases g2 : 65 ≤ n ∧ n ≤ 90
       · obtain ⟨g2, g3⟩ := g2
         have HK2 : Hid (nmK (k + 1) (s.data.toList.drop (k + 1)) = b) := Lib.hid (by
           rw [← hst, show letB n = true from decide_eq_true (by omega)]; rfl)
         have f0 : ¬ (97 : Int) ≤ (n : Int) := by omega
         have f1 : (65 : Int) ≤ (n : Int) := by omega
         have f2 : (n : Int) ≤ 90 := by omega
         clear g1
         clear hst
         go_wp2_with fail
         go_round
         case rel => exact ⟨k + 1, by omega, by go_num, HK2⟩
         case measure => simp [intOf]; omega
       by_cases g3 : n = 95
       · subst g3
         have HK2 : Hid (nmK (k + 1) (s.data.toList.drop (k + 1)) = b) := Lib.hid (by
           rw [← hst, show letB 95 = true from decide_eq_true (by decide)]; rfl)
         clear g1 g2
         clear hst
         go_wp2_with fail
         go_round
         case rel => exact ⟨k + 1, by omega, by go_num, HK2⟩
         case measure => simp [intOf]; omega
       have hlf : letB n = false := decide_eq_false (by omega)
       rw [hlf, Bool.false_or] at hst
       clear hlf
       by_cases hk0 : k = 0
       · subst hk0
         have Hst : Hid (false = b) := Lib.hid hst
         clear hst
         by_cases ca : n < 48
         · have f0 : ¬ (97 : Int) ≤ (n : Int) := by omega
           have f1 : ¬ (65 : Int) ≤ (n : Int) := by omega
           have f2 : ((n : Int) == 95) = false := by simp; omega
           have f3 : (n : Int) < 48 := by omega
           clear g1 g2 g3 ca
           go_wp2_with fail
           go_ret
           exact ⟨by rw [← Hst.out]; rfl, rfl⟩
         by_cases cd : 48 ≤ n ∧ n ≤ 57
         · have f0 : ¬ (97 : Int) ≤ (n : Int) := by omega
           have f1 : ¬ (65 : Int) ≤ (n : Int) := by omega
           have f2 : ((n : Int) == 95) = false := by simp; omega
           have f3 : ¬ (n : Int) < 48 := by omega
           have f4 : ¬ (57 : Int) < (n : Int) := by omega
           clear g1 g2 g3 cd
           go_wp2_with fail
           go_ret
           exact ⟨by rw [← Hst.out]; rfl, rfl⟩
         by_cases ce : 58 ≤ n ∧ n < 65
         · have f0 : ¬ (97 : Int) ≤ (n : Int) := by omega
           have f1 : ¬ (65 : Int) ≤ (n : Int) := by omega
           have f2 : ((n : Int) == 95) = false := by simp; omega
           have f3 : ¬ (n : Int) < 48 := by omega
           have f4 : (57 : Int) < (n : Int) := by omega
           clear g1 g2 g3 ce
           go_wp2_with fail
           go_ret
           exact ⟨by rw [← Hst.out]; rfl, rfl⟩
         by_cases cf : 91 ≤ n ∧ n < 97
         · have f0 : ¬ (97 : Int) ≤ (n : Int) := by omega
           have f1 : (65 : Int) ≤ (n : Int) := by omega
           have f2 : ¬ (n : Int) ≤ 90 := by omega
           have f3 : ((n : Int) == 95) = false := by simp; omega
           have f4 : ¬ (n : Int) < 48 := by omega
           have f5 : (57 : Int) < (n : Int) := by omega
           clear g1 g2 g3 cf
           go_wp2_with fail
           go_ret
           exact ⟨by rw [← Hst.out]; rfl, rfl⟩
         by_cases cg : 123 ≤ n
         · have f0 : (97 : Int) ≤ (n : Int) := by omega
           have f1 : ¬ (n : Int) ≤ 122 := by omega
           have f2 : (65 : Int) ≤ (n : Int) := by omega
           have f3 : ¬ (n : Int) ≤ 90 := by omega
           have f4 : ((n : Int) == 95) = false := by simp; omega
           have f5 : ¬ (n : Int) < 48 := by omega
           have f6 : (57 : Int) < (n : Int) := by omega
           clear g1 g2 g3 cg
           go_wp2_with fail
           go_ret
           exact ⟨by rw [← Hst.out]; rfl, rfl⟩
         omega
       have hk1 : ((k : Int) == 0) = false := by simp; omega
       have hkb : (k == 0) = false := by simpa using hk0
       rw [hkb, Bool.not_false, Bool.true_and] at hst
       clear hkb
       by_cases ca : n < 48
       · have f0 : ¬ (97 : Int) ≤ (n : Int) := by omega
         have f1 : ¬ (65 : Int) ≤ (n : Int) := by omega
         have f2 : ((n : Int) == 95) = false := by simp; omega
         have f3 : (n : Int) < 48 := by omega
         have Hst : Hid (false = b) := Lib.hid (by rw [decide_eq_false (by omega), Bool.false_and] at hst; exact hst)
         clear hst g1 g2 g3 ca
         go_wp2_with fail
         go_ret
         exact ⟨by rw [← Hst.out]; rfl, rfl⟩
       by_cases cd : 48 ≤ n ∧ n ≤ 57
       · have f0 : ¬ (97 : Int) ≤ (n : Int) := by omega
         have f1 : ¬ (65 : Int) ≤ (n : Int) := by omega
         have f2 : ((n : Int) == 95) = false := by simp; omega
         have f3 : ¬ (n : Int) < 48 := by omega
         have f4 : ¬ (57 : Int) < (n : Int) := by omega
         have HK2 : Hid (nmK (k + 1) (s.data.toList.drop (k + 1)) = b) := Lib.hid (by
           rw [← hst, decide_eq_true cd]; rfl)
         clear g1 g2 g3 cd
         clear hst
         go_wp2_with fail
         go_round
         case rel => exact ⟨k + 1, by omega, by go_num, HK2⟩
         case measure => simp [intOf]; omega
       by_cases ce : 58 ≤ n ∧ n < 65
       · have f0 : ¬ (97 : Int) ≤ (n : Int) := by omega
         have f1 : ¬ (65 : Int) ≤ (n : Int) := by omega
         have f2 : ((n : Int) == 95) = false := by simp; omega
         have f3 : ¬ (n : Int) < 48 := by omega
         have f4 : (57 : Int) < (n : Int) := by omega
         have Hst : Hid (false = b) := Lib.hid (by rw [decide_eq_false (by omega), Bool.false_and] at hst; exact hst)
         clear hst g1 g2 g3 ce
         go_wp2_with fail
         go_ret
         exact ⟨by rw [← Hst.out]; rfl, rfl⟩
       by_cases cf : 91 ≤ n ∧ n < 97
       · have f0 : ¬ (97 : Int) ≤ (n : Int) := by omega
         have f1 : (65 : Int) ≤ (n : Int) := by omega
         have f2 : ¬ (n : Int) ≤ 90 := by omega
         have f3 : ((n : Int) == 95) = false := by simp; omega
         have f4 : ¬ (n : Int) < 48 := by omega
         have f5 : (57 : Int) < (n : Int) := by omega
         have Hst : Hid (false = b) := Lib.hid (by rw [decide_eq_false (by omega), Bool.false_and] at hst; exact hst)
         clear hst g1 g2 g3 cf
         go_wp2_with fail
         go_ret
         exact ⟨by rw [← Hst.out]; rfl, rfl⟩
       by_cases cg : 123 ≤ n
       · have f0 : (97 : Int) ≤ (n : Int) := by omega
         have f1 : ¬ (n : Int) ≤ 122 := by omega
         have f2 : (65 : Int) ≤ (n : Int) := by omega
         have f3 : ¬ (n : Int) ≤ 90 := by omega
         have f4 : ((n : Int) == 95) = false := by simp; omega
         have f5 : ¬ (n : Int) < 48 := by omega
         have f6 : (57 : Int) < (n : Int) := by omega
         have Hst : Hid (false = b) := Lib.hid (by rw [decide_eq_false (by omega), Bool.false_and] at hst; exact hst)
         clear hst g1 g2 g3 cg
         go_wp2_with fail
         go_ret
         exact ⟨by rw [← Hst.out]; rfl, rfl⟩
       omega
     · obtain rfl : k = s.size := by omega
       have hst := HK.out
       rw [drop_end s _ (Nat.le_refl _)] at hst
       have Hst : Hid (true = b) := Lib.hid hst
       clear hst
       go_wp2
       go_ret
       exact ⟨by rw [← Hst.out]; rfl, rfl⟩
theorem str_eq (s : ByteArray) (l q : Bs) (hl : s.data.toList = l) : (s.toList == q) = (l == q) := by rw [Lib.toList_data, hl]
set_option maxHeartbeats 4000000 in
theorem rword_any (s : ByteArray) (l : Bs) (hl : s.data.toList = l) (b : Bool) (hb : wordB l = b) (w : World) : Calls Tryz.prog 68 #[.string s] w fun e w' => e = .returned (.bool b) ∧ w = w' := by
 have HN := Lib.hid (fun b hb W => rname_any s l hl b hb W)
 have e0 := str_eq s l [110, 117, 108, 108] hl
 by_cases h0 : l = [110, 117, 108, 108]
 · have hb2 : false = b := by rw [← hb, h0]; rfl
   have Hb := Lib.hid hb2
   rw [show (l == [110, 117, 108, 108]) = true by rw [h0]; rfl] at e0
   clear hl hb hb2 h0 HN
   go_enter Tryz.func68, Tryz.ntmps68
   go_wp2_with fail
   go_ret
   exact ⟨by rw [← Hb.out]; rfl, rfl⟩
 rw [show (l == [110, 117, 108, 108]) = false by simpa using h0] at e0
 have e1 := str_eq s l [116, 114, 117, 101] hl
 by_cases h1 : l = [116, 114, 117, 101]
 · have hb2 : false = b := by rw [← hb, h1]; rfl
   have Hb := Lib.hid hb2
   rw [show (l == [116, 114, 117, 101]) = true by rw [h1]; rfl] at e1
   clear hl hb hb2 h1 HN h0
   go_enter Tryz.func68, Tryz.ntmps68
   go_wp2_with fail
   go_ret
   exact ⟨by rw [← Hb.out]; rfl, rfl⟩
 rw [show (l == [116, 114, 117, 101]) = false by simpa using h1] at e1
 have e2 := str_eq s l [102, 97, 108, 115, 101] hl
 by_cases h2 : l = [102, 97, 108, 115, 101]
 · have hb2 : false = b := by rw [← hb, h2]; rfl
   have Hb := Lib.hid hb2
   rw [show (l == [102, 97, 108, 115, 101]) = true by rw [h2]; rfl] at e2
   clear hl hb hb2 h2 HN h0 h1
   go_enter Tryz.func68, Tryz.ntmps68
   go_wp2_with fail
   go_ret
   exact ⟨by rw [← Hb.out]; rfl, rfl⟩
 rw [show (l == [102, 97, 108, 115, 101]) = false by simpa using h2] at e2
 have e3 := str_eq s l [97, 110, 100] hl
 by_cases h3 : l = [97, 110, 100]
 · have hb2 : false = b := by rw [← hb, h3]; rfl
   have Hb := Lib.hid hb2
   rw [show (l == [97, 110, 100]) = true by rw [h3]; rfl] at e3
   clear hl hb hb2 h3 HN h0 h1 h2
   go_enter Tryz.func68, Tryz.ntmps68
   go_wp2_with fail
   go_ret
   exact ⟨by rw [← Hb.out]; rfl, rfl⟩
 rw [show (l == [97, 110, 100]) = false by simpa using h3] at e3
 have e4 := str_eq s l [111, 114] hl
 by_cases h4 : l = [111, 114]
 · have hb2 : false = b := by rw [← hb, h4]; rfl
   have Hb := Lib.hid hb2
   rw [show (l == [111, 114]) = true by rw [h4]; rfl] at e4
   clear hl hb hb2 h4 HN h0 h1 h2 h3
   go_enter Tryz.func68, Tryz.ntmps68
   go_wp2_with fail
   go_ret
   exact ⟨by rw [← Hb.out]; rfl, rfl⟩
 rw [show (l == [111, 114]) = false by simpa using h4] at e4
 have e5 := str_eq s l [110, 111, 116] hl
 by_cases h5 : l = [110, 111, 116]
 · have hb2 : false = b := by rw [← hb, h5]; rfl
   have Hb := Lib.hid hb2
   rw [show (l == [110, 111, 116]) = true by rw [h5]; rfl] at e5
   clear hl hb hb2 h5 HN h0 h1 h2 h3 h4
   go_enter Tryz.func68, Tryz.ntmps68
   go_wp2_with fail
   go_ret
   exact ⟨by rw [← Hb.out]; rfl, rfl⟩
 rw [show (l == [110, 111, 116]) = false by simpa using h5] at e5
 have e6 := str_eq s l [105, 102] hl
 by_cases h6 : l = [105, 102]
 · have hb2 : false = b := by rw [← hb, h6]; rfl
   have Hb := Lib.hid hb2
   rw [show (l == [105, 102]) = true by rw [h6]; rfl] at e6
   clear hl hb hb2 h6 HN h0 h1 h2 h3 h4 h5
   go_enter Tryz.func68, Tryz.ntmps68
   go_wp2_with fail
   go_ret
   exact ⟨by rw [← Hb.out]; rfl, rfl⟩
 rw [show (l == [105, 102]) = false by simpa using h6] at e6
 have e7 := str_eq s l [116, 104, 101, 110] hl
 by_cases h7 : l = [116, 104, 101, 110]
 · have hb2 : false = b := by rw [← hb, h7]; rfl
   have Hb := Lib.hid hb2
   rw [show (l == [116, 104, 101, 110]) = true by rw [h7]; rfl] at e7
   clear hl hb hb2 h7 HN h0 h1 h2 h3 h4 h5 h6
   go_enter Tryz.func68, Tryz.ntmps68
   go_wp2_with fail
   go_ret
   exact ⟨by rw [← Hb.out]; rfl, rfl⟩
 rw [show (l == [116, 104, 101, 110]) = false by simpa using h7] at e7
 have e8 := str_eq s l [101, 108, 115, 101] hl
 by_cases h8 : l = [101, 108, 115, 101]
 · have hb2 : false = b := by rw [← hb, h8]; rfl
   have Hb := Lib.hid hb2
   rw [show (l == [101, 108, 115, 101]) = true by rw [h8]; rfl] at e8
   clear hl hb hb2 h8 HN h0 h1 h2 h3 h4 h5 h6 h7
   go_enter Tryz.func68, Tryz.ntmps68
   go_wp2_with fail
   go_ret
   exact ⟨by rw [← Hb.out]; rfl, rfl⟩
 rw [show (l == [101, 108, 115, 101]) = false by simpa using h8] at e8
 have hnl : wordsL.contains l = false := by
   have : l ∉ wordsL := by
     unfold wordsL
     simp only [List.mem_cons, List.not_mem_nil, or_false, not_or]
     exact ⟨h0, h1, h2, h3, h4, h5, h6, h7, h8⟩
   simpa using this
 have hb2 : nameB l = b := by rw [← hb]; unfold wordB; rw [hnl, Bool.not_false, Bool.and_true]
 have HN2 := Lib.hid (fun W => HN.out b hb2 W)
 clear hl hb hb2 hnl h0 h1 h2 h3 h4 h5 h6 h7 h8 HN
 go_enter Tryz.func68, Tryz.ntmps68
 go_wp2_with fail
 refine (HN2.out _).mono ?_
 rintro _ _ ⟨rfl, rfl⟩
 go_wp2_with fail
 go_ret
 exact ⟨rfl, rfl⟩
end Go.Proofs.YtapilekangmcoaaGreatDoor
