/- The walk of lex.quoted. The walks of package chars: sign, Bad, Good. The walk of lex.number. The walks of strings.Builder's WriteByte and WriteString, with what they leave as it was. -/
import Derived.Deep.LoopGhost
import Derived.Lib.LaidU8T
import Derived.Laws.RangeAny
import Derived.Lib.OthersKept
import Derived.Lib.ItoaWalk
import Derived.Lib.AppendIntMem
import Derived.Lib.ItoaMem
import Derived.Test.YtapilekangmcoaaGreatDoorN3
set_option linter.unusedVariables false
set_option linter.unusedSimpArgs false
set_option maxHeartbeats 8000000
set_option maxRecDepth 100000
namespace Go.Proofs.YtapilekangmcoaaGreatDoor
open Go.RowKit
def quoV : Option (Bs × Nat) → Value
 | none => .tuple #[.string ⟨#[]⟩, .int .i64 0, .bool false]
 | some p => .tuple #[.string (bs p.1), .int .i64 ((p.2 + 1 : Nat) : Int), .bool true]
theorem byte_drop (s : ByteArray) (k : Nat) (h : k < s.size) : s.data.toList.drop k = s[k] :: s.data.toList.drop (k + 1) := by
 have h2 : k < s.data.toList.length := by rw [size_list]; exact h
 rw [List.drop_eq_getElem_cons h2]
 rfl
theorem drop_end (s : ByteArray) (k : Nat) (h : s.size ≤ k) : s.data.toList.drop k = [] := List.drop_of_length_le (by rw [size_list]; exact h)
theorem cells_snoc (o : Bs) (c : UInt8) : Lib.byteCells o ++ [Value.int .u8 (c.toNat : Int)] = Lib.byteCells (o ++ [c]) := by simp [Lib.byteCells]
set_option maxHeartbeats 2000000 in
theorem quoted_any (s : ByteArray) (h0 : 1 ≤ s.size) (hs : s.size ≤ 4000000) (R : Value) (hR : quoV (qS (s.data.toList.drop 1)) = R) (w : World) :
   Calls Tryz.prog 115 #[.string s] w fun e w' => e = .returned R ∧ Below w.heap.size w w' := by
 have HR := Lib.hid hR
 clear hR
 have hB0 := Lib.fresh_isBuilder 89 5 w
 have HB0 := Lib.hid hB0
 clear hB0
 go_enter Tryz.func115, Tryz.ntmps115
 go_wp2_with fail
 go_loopw [6, 16, 21] (fun i _ _ wr => ∃ (k : Nat) (o : Bs), 1 ≤ k ∧ k ≤ s.size ∧ i = .int .i64 (k : Int) ∧ o.length ≤ k ∧ Hid (qS (s.data.toList.drop 1) = (qS (s.data.toList.drop k)).map fun p => (o ++ p.1, p.2 + (k - 1))) ∧ IsB w.heap.size w.heap.size o wr ∧ Below w.heap.size w wr) (fun i _ _ _ => s.size - (intOf i).toNat)
 case atStart => exact ⟨1, [], by omega, h0, rfl, by simp, Lib.hid (by cases qS (s.data.toList.drop 1) <;> simp), HB0.out, by (repeat' first | (with_reducible first | exact .refl _ _ | assumption | apply balloc | apply Below.drew | apply bset | refine bstep ?_ ‹_› | refine bturn ?_ ‹_› ?_) | go_size)⟩
 case round =>
   obtain ⟨k, o, hk1, hk, rfl, ho, HQ, hB, hbr⟩ := hrel
   have hsz := hbr.size
   have HB := Lib.hid hB
   clear hB
   by_cases hlt : k < s.size
   · have hd := byte_drop s k hlt
     have hx := qS_cons s[k] (s.data.toList.drop (k + 1))
     rw [← hd] at hx
     by_cases h34 : s[k] = 34
     · rw [if_pos h34] at hx
       have hq := HQ.out
       rw [hx] at hq
       have HE : Hid (R = .tuple #[.string (bs o), .int .i64 ((k + 1 : Nat) : Int), .bool true]) := by
         refine Lib.hid ?_
         rw [← HR.out, hq]
         show Value.tuple #[.string (bs (o ++ [])), .int .i64 (((1 + (k - 1)) + 1 : Nat) : Int), .bool true] = _
         rw [List.append_nil, show (1 + (k - 1)) + 1 = k + 1 by omega]
       have x0 : ((s[k].toNat : Nat) : Int) = 34 := by rw [h34]; rfl
       clear hx hd h34 hq
       have HS := Lib.hid (fun W hh => Tryz.Builder_String_any w.heap.size w.heap.size o W hh)
       go_wp2_with fail
       refine (HS.out _ HB.out (by omega)).mono ?_
       rintro _ w2 ⟨rfl, hb2⟩
       go_wp2_with fail
       go_returns
       exact ⟨by rw [HE.out]; rfl, by exact hbr.trans hb2⟩
     · rw [if_neg h34] at hx
       have x0 : ¬ ((s[k].toNat : Nat) : Int) = 34 := fun e => h34 (UInt8.toNat_inj.1 (by rw [show (34 : UInt8).toNat = 34 from rfl]; omega))
       by_cases h92 : s[k] = 92
       · rw [if_pos h92] at hx
         have x1 : ((s[k].toNat : Nat) : Int) = 92 := by rw [h92]; rfl
         obtain ⟨k2, hk2⟩ : ∃ k2, k + 1 = k2 := ⟨_, rfl⟩
         rw [hk2] at hx hd
         have ki : (k : Int) + 1 = (k2 : Int) := by omega
         have kw : IntKind.i64.wrap (k2 : Int) = (k2 : Int) := IntWalk.i64_in _ (by omega)
         by_cases hlt2 : k2 < s.size
         · have hd2 := byte_drop s k2 hlt2
           rw [hd2] at hx
           simp only at hx
           have kE : ¬ ((k2 : Int) = (s.size : Int)) := by omega
           obtain ⟨k3, hk3⟩ : ∃ k3, k2 + 1 = k3 := ⟨_, rfl⟩
           rw [hk3] at hx hd2
           have ki2 : (k2 : Int) + 1 = (k3 : Int) := by omega
           have kw3 : IntKind.i64.wrap (k3 : Int) = (k3 : Int) := IntWalk.i64_in _ (by omega)
           obtain ⟨y, hy0⟩ : ∃ y, s[k2] = y := ⟨_, rfl⟩
           rw [hy0] at hx hd2
           have hyv : ((s[k2].toNat : Nat) : Int) = ((y.toNat : Nat) : Int) := by rw [hy0]
           by_cases hy : y = 34 ∨ y = 92
           · rw [if_pos hy] at hx
             have hq := HQ.out
             rw [hx] at hq
             have HQ2 : Hid (qS (s.data.toList.drop 1) = (qS (s.data.toList.drop k3)).map fun p => ((o ++ [y]) ++ p.1, p.2 + (k3 - 1))) := by
               refine Lib.hid ?_
               rw [hq]
               cases qS (s.data.toList.drop k3) with
               | none => rfl
               | some p =>
                 simp only [Option.map_some, List.append_assoc, List.singleton_append]
                 congr 2
                 omega
             have HC := Lib.hid (cells_snoc o y)
             have HWr := Lib.hid (fun W hh hl hw => byte_any w.heap.size w.heap.size (Lib.byteCells o) ((y.toNat : Nat) : Int) W hh hl hw)
             have hob : (Lib.byteCells o).length + 1 ≤ 1000000000 := by rw [Lib.byteCells_length]; omega
             have Hob := Lib.hid hob
             rcases hy with hy | hy
             · have y1 : ((y.toNat : Nat) : Int) = 34 := by rw [hy]; rfl
               rw [y1] at hyv HWr
               rw [y1] at HC
               clear hx hd hd2 hq h34 h92 y1 hob hk2 hk3 hy hy0
               go_wp2_with fail
               refine (HWr.out _ HB.out Hob.out (by omega)).mono ?_
               rintro _ w2 ⟨rfl, hB2, hb2⟩
               rw [HC.out] at hB2
               go_wp2_with fail
               go_roundw
               case rel => exact ⟨k3, o ++ [y], by omega, by omega, by go_num, by rw [List.length_append, List.length_singleton]; omega, HQ2, .inr hB2, hbr.trans hb2⟩
               case measure => simp [intOf]; omega
             · have y1 : ((y.toNat : Nat) : Int) = 92 := by rw [hy]; rfl
               rw [y1] at hyv HWr
               rw [y1] at HC
               clear hx hd hd2 hq h34 h92 y1 hob hk2 hk3 hy hy0
               go_wp2_with fail
               refine (HWr.out _ HB.out Hob.out (by omega)).mono ?_
               rintro _ w2 ⟨rfl, hB2, hb2⟩
               rw [HC.out] at hB2
               go_wp2_with fail
               go_roundw
               case rel => exact ⟨k3, o ++ [y], by omega, by omega, by go_num, by rw [List.length_append, List.length_singleton]; omega, HQ2, .inr hB2, hbr.trans hb2⟩
               case measure => simp [intOf]; omega
           · rw [if_neg hy] at hx
             have hq := HQ.out
             rw [hx] at hq
             have HE : Hid (R = .tuple #[.string ⟨#[]⟩, .int .i64 0, .bool false]) := Lib.hid (by rw [← HR.out, hq]; rfl)
             have y1 : ¬ ((y.toNat : Nat) : Int) = 34 := fun e => hy (.inl (UInt8.toNat_inj.1 (by rw [show (34 : UInt8).toNat = 34 from rfl]; omega)))
             have y2 : ¬ ((y.toNat : Nat) : Int) = 92 := fun e => hy (.inr (UInt8.toNat_inj.1 (by rw [show (92 : UInt8).toNat = 92 from rfl]; omega)))
             have b1 : (((y.toNat : Nat) : Int) != 34) = true := by simpa using y1
             have b2 : (((y.toNat : Nat) : Int) != 92) = true := by simpa using y2
             clear hx hd hd2 hq h34 h92 hk2 hk3 hy hy0 y1 y2
             go_wp2_with fail
             go_returns
             exact ⟨by rw [HE.out]; rfl, hbr⟩
         · have kE : (k2 : Int) = (s.size : Int) := by omega
           rw [drop_end s k2 (by omega)] at hx
           have hq := HQ.out
           rw [hx] at hq
           have HE : Hid (R = .tuple #[.string ⟨#[]⟩, .int .i64 0, .bool false]) := Lib.hid (by rw [← HR.out, hq]; rfl)
           clear hx hd hq h34 h92 hk2
           go_wp2_with fail
           go_returns
           exact ⟨by rw [HE.out]; rfl, hbr⟩
       · rw [if_neg h92] at hx
         obtain ⟨y, hy0⟩ : ∃ y, s[k] = y := ⟨_, rfl⟩
         rw [hy0] at hx hd
         obtain ⟨k3, hk3⟩ : ∃ k3, k + 1 = k3 := ⟨_, rfl⟩
         rw [hk3] at hx hd
         have hq := HQ.out
         rw [hx] at hq
         have HQ2 : Hid (qS (s.data.toList.drop 1) = (qS (s.data.toList.drop k3)).map fun p => ((o ++ [y]) ++ p.1, p.2 + (k3 - 1))) := by
           refine Lib.hid ?_
           rw [hq]
           cases qS (s.data.toList.drop k3) with
           | none => rfl
           | some p =>
             simp only [Option.map_some, List.append_assoc, List.singleton_append]
             congr 2
             omega
         have x1 : ¬ ((s[k].toNat : Nat) : Int) = 92 := fun e => h92 (UInt8.toNat_inj.1 (by rw [show (92 : UInt8).toNat = 92 from rfl]; omega))
         have HC := Lib.hid (cells_snoc o y)
         have HWr := Lib.hid (fun W hh hl hw => byte_any w.heap.size w.heap.size (Lib.byteCells o) ((s[k].toNat : Nat) : Int) W hh hl hw)
         have hob : (Lib.byteCells o).length + 1 ≤ 1000000000 := by rw [Lib.byteCells_length]; omega
         have Hob := Lib.hid hob
         have Hy0 := Lib.hid hy0
         clear hx hd hq h34 h92 hob hy0
         go_wp2_with fail
         refine (HWr.out _ HB.out Hob.out (by omega)).mono ?_
         rintro _ w2 ⟨rfl, hB2, hb2⟩
         rw [Hy0.out, HC.out] at hB2
         go_wp2_with fail
         go_roundw
         case rel => exact ⟨k3, o ++ [y], by omega, by omega, by rw [← hk3]; go_num, by rw [List.length_append, List.length_singleton]; omega, HQ2, .inr hB2, hbr.trans hb2⟩
         case measure => simp [intOf]; omega
   · obtain rfl : k = s.size := by omega
     have hq := HQ.out
     rw [drop_end s _ (Nat.le_refl _)] at hq
     have HE : Hid (R = .tuple #[.string ⟨#[]⟩, .int .i64 0, .bool false]) := Lib.hid (by rw [← HR.out, hq]; rfl)
     clear hq
     go_wp2_with fail
     go_returns
     exact ⟨by rw [HE.out]; rfl, hbr⟩
end Go.Proofs.YtapilekangmcoaaGreatDoor
namespace Go.Proofs.YtapilekangmcoaaGreatDoor
open Go.RowKit
/-- May a sign stand? -/
def mayB (r : Int) : Bool := decide (r = 9 ∨ r = 10 ∨ r = 13 ∨ 32 ≤ r ∧ r ≤ 55295 ∨ 57344 ≤ r ∧ r ≤ 65533 ∨ 65536 ≤ r ∧ r ≤ 1114111)
set_option maxHeartbeats 1000000 in
theorem sign_any (r : Int) (b : Bool) (hb : mayB r = b) (w : World) : Calls Tryz.prog 126 #[.int .i32 r] w fun e w' => e = .returned (.bool b) ∧ w = w' := by
 subst hb
 by_cases h1 : r = 9
 · subst h1
   go_enter Tryz.func126, Tryz.ntmps126
   go_wp2
   go_ret
   exact ⟨rfl, rfl⟩
 by_cases h2 : r = 10
 · subst h2
   go_enter Tryz.func126, Tryz.ntmps126
   go_wp2
   go_ret
   exact ⟨rfl, rfl⟩
 by_cases h3 : r = 13
 · subst h3
   go_enter Tryz.func126, Tryz.ntmps126
   go_wp2
   go_ret
   exact ⟨rfl, rfl⟩
 have e1 : (r == 9) = false := by simpa using h1
 have e2 : (r == 10) = false := by simpa using h2
 have e3 : (r == 13) = false := by simpa using h3
 have hm : mayB r = (decide (32 ≤ r ∧ r ≤ 55295) || decide (57344 ≤ r ∧ r ≤ 65533) || decide (65536 ≤ r ∧ r ≤ 1114111)) := by
   unfold mayB
   simp [h1, h2, h3, Bool.or_assoc]
 rw [hm]
 by_cases g1 : 32 ≤ r ∧ r ≤ 55295
 · rw [decide_eq_true g1]
   obtain ⟨g1, g2⟩ := g1
   clear hm h1 h2 h3
   go_enter Tryz.func126, Tryz.ntmps126
   go_wp2
   go_ret
   exact ⟨rfl, rfl⟩
 by_cases g2 : 57344 ≤ r ∧ r ≤ 65533
 · rw [decide_eq_false g1, decide_eq_true g2]
   obtain ⟨g2, g3⟩ := g2
   have g4 : ¬ r ≤ 55295 := by omega
   have g5 : 32 ≤ r := by omega
   clear hm h1 h2 h3 g1
   go_enter Tryz.func126, Tryz.ntmps126
   go_wp2
   go_ret
   exact ⟨rfl, rfl⟩
 by_cases g3 : 65536 ≤ r ∧ r ≤ 1114111
 · rw [decide_eq_false g1, decide_eq_false g2, decide_eq_true g3]
   obtain ⟨g6, g7⟩ := g3
   have g4 : ¬ r ≤ 55295 := by omega
   have g5 : 32 ≤ r := by omega
   have g8 : 57344 ≤ r := by omega
   have g9 : ¬ r ≤ 65533 := by omega
   clear hm h1 h2 h3 g1 g2
   go_enter Tryz.func126, Tryz.ntmps126
   go_wp2
   go_ret
   exact ⟨rfl, rfl⟩
 · rw [decide_eq_false g1, decide_eq_false g2, decide_eq_false g3]
   clear hm h1 h2 h3
   by_cases k1 : r < 32
   · have k2 : ¬ 32 ≤ r := by omega
     have k3 : ¬ 57344 ≤ r := by omega
     have k4 : ¬ 65536 ≤ r := by omega
     clear g1 g2 g3
     go_enter Tryz.func126, Tryz.ntmps126
     go_wp2
     go_ret
     exact ⟨rfl, rfl⟩
   · have k2 : 32 ≤ r := by omega
     have k3 : ¬ r ≤ 55295 := by omega
     by_cases k4 : r < 57344
     · have k5 : ¬ 57344 ≤ r := by omega
       have k6 : ¬ 65536 ≤ r := by omega
       clear g1 g2 g3
       go_enter Tryz.func126, Tryz.ntmps126
       go_wp2
       go_ret
       exact ⟨rfl, rfl⟩
     · have k5 : 57344 ≤ r := by omega
       have k6 : ¬ r ≤ 65533 := by omega
       by_cases k7 : r < 65536
       · have k8 : ¬ 65536 ≤ r := by omega
         clear g1 g2 g3
         go_enter Tryz.func126, Tryz.ntmps126
         go_wp2
         go_ret
         exact ⟨rfl, rfl⟩
       · have k8 : 65536 ≤ r := by omega
         have k9 : ¬ r ≤ 1114111 := by omega
         clear g1 g2 g3
         go_enter Tryz.func126, Tryz.ntmps126
         go_wp2
         go_ret
         exact ⟨rfl, rfl⟩
/-- Is the sign at a place bad? -/
def badAt (s : ByteArray) (p : Nat) : Bool := ((Utf8.decode s p).1 == 65533 && (Lib.decodeGo (s.extract p s.size)).2 == 1) || !mayB (Utf8.decode s p).1
def badF (s : ByteArray) : Nat → Nat → Int
 | 0, _ => -1
 | b + 1, p => if p < s.size then (if badAt s p then (p : Int) else badF s b (p + (Utf8.decode s p).2)) else -1
def goodS (s : ByteArray) : Bool := decide (badF s s.size 0 < 0)
theorem width_pos (s : ByteArray) (pos : Nat) (h : pos < s.size) : 1 ≤ (Utf8.decode s pos).2 := by
 by_cases ha : (s[pos]'h).toNat < 128
 · rw [decode_ascii s pos h ha]
   exact Nat.le_refl _
 · exact (decode_high s pos h (by omega)).2
theorem badF_end (s : ByteArray) (b p : Nat) (h : ¬ p < s.size) : badF s b p = -1 := by
 cases b with
 | zero => rfl
 | succ b => rw [badF, if_neg h]
abbrev U8T (w : World) : Prop := Lib.Utf8Tabs 1 2 w
theorem decode_lit (s : ByteArray) (w : World) (R K : Int) (hR : (Lib.decodeGo s).1 = R) (hK : (Lib.decodeGo s).2 = K) (hT : U8T w) :
   Calls Tryz.prog 125 #[.string s] w fun e w' => e = .returned (.tuple #[.int .i32 R, .int .i64 K]) ∧ Below w.heap.size w w' := by
 rw [← hR, ← hK]
 exact Tryz.utf8_DecodeRuneInString s w hT
theorem heap_lt {w : World} {g : Nat} {o : Obj} (h : w.heap[g]? = some o) : g < w.heap.size := (Array.getElem?_eq_some_iff.1 h).1
set_option maxHeartbeats 2000000 in
theorem bad_any (s : ByteArray) (w : World) (hT : U8T w) : Calls Tryz.prog 83 #[.string s] w fun e w' => e = .returned (.int .i64 (badF s s.size 0)) ∧ Below w.heap.size w w' := by
 have HT := Lib.hid (fun W (hb : Below w.heap.size w W) => Utf8Tabs_below hT hb)
 obtain ⟨R, hR⟩ : ∃ R, badF s s.size 0 = R := ⟨_, rfl⟩
 rw [hR]
 have HR := Lib.hid hR
 clear hT hR
 go_enter Tryz.func83, Tryz.ntmps83
 go_wp2
 go_loopw [3, 4, 5, 6] (fun _ _ _ _ wr => ∃ (pos b : Nat), wr.heap[w.heap.size]? = some (.stringIter s pos) ∧ Below w.heap.size w wr ∧ Hid (badF s b pos = R) ∧ s.size ≤ pos + b) (fun _ _ _ _ wr => s.size - wr.iterPos w.heap.size)
 case atStart => exact ⟨0, s.size, by simp [World.iter_heap], by first | exact (Below.refl _ _).alloc (Nat.le_refl _) _ | exact ⟨rfl, rfl, rfl, by simp [World.iter], fun i hi => by simp [World.iter]; omega⟩, HR, by omega⟩
 case round =>
   obtain ⟨pos, b, hit, hbr, HF, hle⟩ := hrel
   have hit2 := Lib.hid hit
   by_cases hp : pos < s.size
   · have hnx : ∀ ty, (Instr.next (.pointer (some ⟨w.heap.size, 0, none⟩)) true ty).run Tryz.prog wr = _ := fun ty => Lib.run_next_any_at wr w.heap.size s pos ty hit hp
     have hwd := width_pos s pos hp
     obtain ⟨b', rfl⟩ : ∃ b', b = b' + 1 := ⟨b - 1, by omega⟩
     have hf := HF.out
     rw [badF, if_pos hp] at hf
     have hit3 := Lib.iterAt_heap wr w.heap.size s pos (pos + (Utf8.decode s pos).2) hit
     have hb3 := Lib.below_iterAt hbr (Nat.le_refl _) s (pos + (Utf8.decode s pos).2)
     unfold badAt at hf
     obtain ⟨r, hr⟩ : ∃ r : Nat, (Utf8.decode s pos).1 = r := ⟨_, rfl⟩
     obtain ⟨n, hn⟩ : ∃ n : Nat, (Utf8.decode s pos).2 = n := ⟨_, rfl⟩
     obtain ⟨q, hq⟩ : ∃ q : Nat, (Lib.decodeGo (s.extract pos s.size)).1 = q := ⟨_, rfl⟩
     obtain ⟨k, hk⟩ : ∃ k : Nat, (Lib.decodeGo (s.extract pos s.size)).2 = k := ⟨_, rfl⟩
     have HD := Lib.hid (fun W hT => decode_lit (s.extract pos s.size) W (q : Int) (k : Int) (by rw [hq]) (by rw [hk]) hT)
     rw [hr, hn] at hnx
     rw [hn] at hit3 hb3 hwd
     rw [hr, hn, hk] at hf
     have HS := Lib.hid (fun b hb W => sign_any (r : Int) b hb W)
     have H3 := Lib.hid (And.intro hit3 hb3)
     clear hit3 hb3 hr hn hq hk hit HF
     by_cases g1 : r = 65533 ∧ k = 1
     · have hf2 : (pos : Int) = R := by rw [← hf, g1.1, g1.2]; rfl
       obtain ⟨rfl, rfl⟩ := g1
       clear hf
       have Hf2 := Lib.hid hf2
       clear hf2
       go_wp2_with fail
       refine (HD.out _ (HT.out _ H3.out.2)).mono ?_
       rintro _ w2 ⟨rfl, hb2⟩
       go_wp2_with fail
       go_returns
       exact ⟨by rw [← Hf2.out]; rfl, H3.out.2.trans (hb2.mono (by have := H3.out.2.size; exact this))⟩
     · have hs0 : (r == 65533 && k == 1) = false := by
         rw [Bool.and_eq_false_iff]
         by_cases h : r = 65533
         · right; simpa using fun e => g1 ⟨h, e⟩
         · left; simpa using h
       rw [hs0, Bool.false_or] at hf
       cases hm : mayB (r : Int) with
       | false =>
         rw [hm] at hf
         have Hf2 := Lib.hid (show (pos : Int) = R from hf)
         have HM := Lib.hid hm
         clear hf hm
         by_cases h5 : r = 65533
         · subst h5
           have h6 : ¬ (k : Int) = 1 := fun e => g1 ⟨rfl, by omega⟩
           clear g1 hs0
           go_wp2_with fail
           refine (HD.out _ (HT.out _ H3.out.2)).mono ?_
           rintro _ w2 ⟨rfl, hb2⟩
           go_wp2_with fail
           refine (HS.out _ HM.out _).mono ?_
           rintro _ _ ⟨rfl, rfl⟩
           go_wp2_with fail
           go_returns
           exact ⟨by rw [← Hf2.out]; rfl, H3.out.2.trans (hb2.mono (by have := H3.out.2.size; exact this))⟩
         · have h6 : ¬ (r : Int) = 65533 := by omega
           clear g1 hs0 h5
           go_wp2_with fail
           refine (HD.out _ (HT.out _ H3.out.2)).mono ?_
           rintro _ w2 ⟨rfl, hb2⟩
           go_wp2_with fail
           refine (HS.out _ HM.out _).mono ?_
           rintro _ _ ⟨rfl, rfl⟩
           go_wp2_with fail
           go_returns
           exact ⟨by rw [← Hf2.out]; rfl, H3.out.2.trans (hb2.mono (by have := H3.out.2.size; exact this))⟩
       | true =>
         rw [hm] at hf
         have HF2 : Hid (badF s b' (pos + n) = R) := Lib.hid hf
         have HM := Lib.hid hm
         clear hf hm
         by_cases h5 : r = 65533
         · subst h5
           have h6 : ¬ (k : Int) = 1 := fun e => g1 ⟨rfl, by omega⟩
           clear g1 hs0
           go_wp2_with fail
           refine (HD.out _ (HT.out _ H3.out.2)).mono ?_
           rintro _ w2 ⟨rfl, hb2⟩
           go_wp2_with fail
           refine (HS.out _ HM.out _).mono ?_
           rintro _ _ ⟨rfl, rfl⟩
           have hlt3 := H3.out.2.size
           have hit4 : w2.heap[w.heap.size]? = some (.stringIter s (pos + n)) := (hb2.block w.heap.size (heap_lt H3.out.1)).trans H3.out.1
           have Hi4 := Lib.hid hit4
           have hb4 : Below w.heap.size w w2 := H3.out.2.trans (hb2.mono hlt3)
           have hpos : wr.iterPos w.heap.size = pos := by unfold World.iterPos; rw [hit2.out]
           have hpos2 : w2.iterPos w.heap.size = pos + n := by unfold World.iterPos; rw [Hi4.out]
           have HP := Lib.hid (And.intro hpos hpos2)
           clear hit4 hpos hpos2
           go_wp2_with fail
           go_roundw
           case rel => exact ⟨pos + n, b', Hi4.out, hb4, HF2, by omega⟩
           case measure => rw [HP.out.1, HP.out.2]; omega
         · have h6 : ¬ (r : Int) = 65533 := by omega
           clear g1 hs0 h5
           go_wp2_with fail
           refine (HD.out _ (HT.out _ H3.out.2)).mono ?_
           rintro _ w2 ⟨rfl, hb2⟩
           go_wp2_with fail
           refine (HS.out _ HM.out _).mono ?_
           rintro _ _ ⟨rfl, rfl⟩
           have hlt3 := H3.out.2.size
           have hit4 : w2.heap[w.heap.size]? = some (.stringIter s (pos + n)) := (hb2.block w.heap.size (heap_lt H3.out.1)).trans H3.out.1
           have Hi4 := Lib.hid hit4
           have hb4 : Below w.heap.size w w2 := H3.out.2.trans (hb2.mono hlt3)
           have hpos : wr.iterPos w.heap.size = pos := by unfold World.iterPos; rw [hit2.out]
           have hpos2 : w2.iterPos w.heap.size = pos + n := by unfold World.iterPos; rw [Hi4.out]
           have HP := Lib.hid (And.intro hpos hpos2)
           clear hit4 hpos hpos2
           go_wp2_with fail
           go_roundw
           case rel => exact ⟨pos + n, b', Hi4.out, hb4, HF2, by omega⟩
           case measure => rw [HP.out.1, HP.out.2]; omega
   · have hnx : ∀ ty, (Instr.next (.pointer (some ⟨w.heap.size, 0, none⟩)) true ty).run Tryz.prog wr = _ := fun ty => Lib.run_next_end_at wr w.heap.size s pos ty hit hp
     have hf := HF.out
     rw [badF_end s b pos hp] at hf
     subst hf
     clear HF hit
     go_wp2
     go_ret
     exact ⟨rfl, hbr⟩
theorem good_any (s : ByteArray) (b : Bool) (hb : goodS s = b) (w : World) (hT : U8T w) : Calls Tryz.prog 55 #[.string s] w fun e w' => e = .returned (.bool b) ∧ Below w.heap.size w w' := by
 have HB := Lib.hid (bad_any s w hT)
 unfold goodS at hb
 obtain ⟨R, hR⟩ : ∃ R, badF s s.size 0 = R := ⟨_, rfl⟩
 rw [hR] at HB hb
 have Hb := Lib.hid hb
 clear hT hR hb
 go_enter Tryz.func55, Tryz.ntmps55
 go_wp2_with fail
 refine HB.out.mono ?_
 rintro _ w2 ⟨rfl, hb2⟩
 go_wp2
 go_returns
 exact ⟨by rw [← Hb.out]; first | rfl | simp, hb2⟩
end Go.Proofs.YtapilekangmcoaaGreatDoor
namespace Go.Proofs.YtapilekangmcoaaGreatDoor
open Go.RowKit
theorem results_ctt {fn : Func} {p u v : Tmp} {ty : TypeId} (h : fn.results = #[.cell p ty, .tmp u, .tmp v]) (tmps : Array Value) (P : Program) (w : World) :
   (results fn tmps).run P w =
     ((asAddr (tmps.getD p undef)).run P w).andThen fun a w₁ => ((loadVar ty a).run P w₁).andThen fun x w₂ => .ok (.tuple #[x, tmps.getD u undef, tmps.getD v undef]) w₂ := by
 simp only [results, h]
 simp [Sem.run_bind, Result.andThen]
theorem ret_blk3 {P : Program} {fn : Func} {R : Ending → World → Prop} {a : Act} {w : World} {p u v : Tmp} {ty : TypeId} {g : Nat} {T : TypeId} {cs : Array Value} {d : TypeDesc} (h : fn.results = #[.cell p ty, .tmp u, .tmp v]) (hB : Blk w g T cs)
   (hp : a.tmps.getD p undef = .pointer (some ⟨g, 0, none⟩)) (hu : P.underlying ty = some d) (hd : (match d with | .struct _ | .array _ _ => true | _ => false) = true) (hi : (P.info? ty).map (·.size) = some cs.size)
   (hdf : a.defers = []) (hR : R (.returned (.tuple #[.agg cs, a.tmps.getD u undef, a.tmps.getD v undef])) w) : bodyPost P fn R .ret a w := by
 refine bodyPost_ret ?_ hdf hR
 rw [results_ctt h, hp]
 simp [asAddr, run_loadVar_row w g T ty cs (0, 0) d hB hu hd hi, Result.andThen]
def tokA (t : Tk) : Array Value := #[.int .i64 t.k, .int .i64 (t.a : Int), .string (bs t.t), .int .i64 t.n, .int .i64 t.s, .int .i64 t.m]
def tokV (t : Tk) : Value := .agg (tokA t)
/-- The worlds in which the library's variables stand as they began. -/
structure OKW (m : Int) (w : World) : Prop where
 hm : w.cell? ⟨5, 0, none⟩ = some (.int .i64 m)
 lt : 5 < w.heap.size
 u8 : U8T w
 tab : Lib.TabIs Tryz.prog w "internal/strconv.uint64pow10" .u64 Lib.pow10Tab
theorem OKW.step {m : Int} {w w' : World} (h : OKW m w) (hb : Below w.heap.size w w') : OKW m w' :=
 ⟨((bcell hb).1 _ _ h.lt).trans h.hm, Nat.lt_of_lt_of_le h.lt hb.size, Utf8Tabs_below h.u8 hb, Lib.tabBelow_of_tabIs h.tab _ hb⟩
/-- What is taken as given, at this program. -/
structure LxOK (x : Lx) (m : Int) : Prop where
 P : ∀ (s : ByteArray) (l : Bs), s.data.toList = l → l.length ≤ 4000000 → ∀ W, OKW m W → Calls Tryz.prog 153 #[.string s] W fun e w' => e = .returned (.tuple #[.agg #[.int .i64 (x.P l).n, .int .i64 (x.P l).s], .int .i64 (x.P l).e]) ∧ Below W.heap.size W w'
 D : ∀ (s : ByteArray) (l : Bs), s.data.toList = l → l.length ≤ 4000000 → ∀ W, OKW m W → Calls Tryz.prog 116 #[.string s] W fun e w' => e = .returned (.tuple #[.int .i64 (x.D l).1, .int .i64 (x.D l).2]) ∧ Below W.heap.size W w'
 G : ∀ (s : ByteArray) (l : Bs), s.data.toList = l → l.length ≤ 4000000 → ∀ W, OKW m W → Calls Tryz.prog 55 #[.string s] W fun e w' => e = .returned (.bool (x.G l)) ∧ Below W.heap.size W w'
theorem ext_drop (s : ByteArray) (k : Nat) : (s.extract k s.size).data.toList = s.data.toList.drop k := Lib.extract_to_end s k
theorem ext_take (s : ByteArray) (k : Nat) : (s.extract 0 k).data.toList = s.data.toList.take k := Lib.extract_from_zero s k
theorem ext_size (s : ByteArray) (k : Nat) : (s.extract k s.size).size = s.size - k := by
 rw [← size_list, ext_drop, List.length_drop, size_list]
theorem run_figs (s : ByteArray) (k : Nat) (hs : s.size ≤ 4000000) (hk : runS figs s.data.toList = k) (w : World) :
   Calls Tryz.prog 72 #[.string s, .string ⟨#[48, 49, 50, 51, 52, 53, 54, 55, 56, 57]⟩] w fun e w' => e = .returned (.int .i64 (k : Int)) ∧ Below w.heap.size w w' :=
 run_any s ⟨#[48, 49, 50, 51, 52, 53, 54, 55, 56, 57]⟩ k (by omega) (by decide) (by decide) hk w
theorem all_bytes {p : UInt8 → Prop} (h : ∀ n : Fin 256, p (UInt8.ofNat n.val)) (c : UInt8) : p c := by
 have := h ⟨c.toNat, c.toNat_lt⟩
 rwa [UInt8.ofNat_toNat] at this
theorem indexByte_figs (c : UInt8) : decide (0 ≤ Lib.indexByte figs c) = figs.contains c := all_bytes (p := fun c => decide (0 ≤ Lib.indexByte figs c) = figs.contains c) (by decide +kernel) c
theorem indexByte_lets (c : UInt8) : decide (0 ≤ Lib.indexByte lets c) = lets.contains c := all_bytes (p := fun c => decide (0 ≤ Lib.indexByte lets c) = lets.contains c) (by decide +kernel) c
/-- strings.Contains of the figures, at a text of one byte. -/
theorem contains_figs (t : ByteArray) (c : UInt8) (b : Bool) (ht : t.data.toList = [c]) (hb : figs.contains c = b) (w : World) :
   Calls Tryz.prog 152 #[.string ⟨#[48, 49, 50, 51, 52, 53, 54, 55, 56, 57]⟩, .string t] w fun e w' => e = .returned (.bool b) ∧ w = w' := by
 have e : t = ⟨#[c]⟩ := by
   apply ByteArray.ext
   apply Array.toList_inj.1
   rw [ht]
 rw [e, ← hb, ← indexByte_figs]
 refine (Tryz.strings_Contains_one ⟨#[48, 49, 50, 51, 52, 53, 54, 55, 56, 57]⟩ c w).mono ?_
 rintro _ w' ⟨rfl, rfl⟩
 exact ⟨rfl, rfl⟩
theorem drop_two {s : ByteArray} {c d : UInt8} {r : Bs} (h : s.data.toList = c :: d :: r) : (s.extract 1 2).data.toList = [d] := by
 rw [ByteArray.data_extract, Array.toList_extract, h]
 rfl
theorem head_of {s : ByteArray} {c : UInt8} {r : Bs} (h : s.data.toList = c :: r) (h0 : 0 < s.size) : s[0] = c := by
 have := byte_drop s 0 h0
 rw [List.drop_zero, h] at this
 exact (List.cons.inj this).1.symm
set_option maxHeartbeats 4000000 in
theorem number_any (x : Lx) (m : Int) (H : LxOK x m) (s : ByteArray) (l : Bs) (hl : s.data.toList = l) (hs : s.size ≤ 4000000) (w : World) (hw : OKW m w) :
   Calls Tryz.prog 114 #[.string s] w fun e w' => e = .returned (.tuple #[tokV (numS x l).t, .int .i64 ((numS x l).n : Int), .int .i64 (numS x l).e]) ∧ Below w.heap.size w w' := by
 have hll : l.length = s.size := by rw [← hl, size_list]
 obtain ⟨k, hk⟩ : ∃ k, runS figs l = k := ⟨_, rfl⟩
 have hkl : k ≤ s.size := by rw [← hk, ← hll]; exact runS_le _ _
 have H1 := Lib.hid (fun W => run_figs s k hs (by rw [hl, hk]) W)
 obtain ⟨r, hr⟩ : ∃ r, s.extract k s.size = r := ⟨_, rfl⟩
 have hrl : r.data.toList = l.drop k := by rw [← hr, ext_drop, hl]
 have hrs : r.size = s.size - k := by rw [← hr, ext_size]
 have HW := Lib.hid (fun W (hb : Below w.heap.size w W) => hw.step hb)
 obtain ⟨N, hN⟩ : ∃ N, numLen l = N := ⟨_, rfl⟩
 have hNl : N ≤ s.size := by rw [← hN, ← hll]; exact numLen_le _
 obtain ⟨R, hR⟩ : ∃ R, x.P (l.take N) = R := ⟨_, rfl⟩
 obtain ⟨p, hp⟩ : ∃ p, s.extract 0 N = p := ⟨_, rfl⟩
 have hP := fun W hW => H.P p (l.take N) (by rw [← hp, ext_take, hl]) (by rw [List.length_take]; omega) W hW
 rw [hR] at hP
 have HP := Lib.hid hP
 have HE : Hid (tokV (numS x l).t = .agg #[.int .i64 1, .int .i64 0, .string ⟨#[]⟩, .int .i64 R.n, .int .i64 R.s, .int .i64 0] ∧ (numS x l).n = N ∧ (numS x l).e = R.e) := by
   refine Lib.hid ?_
   unfold numS
   simp only [hN, hR]
   exact ⟨rfl, trivial, trivial⟩
 have hb1 := Blk.new w 101 #[.int .i64 0, .int .i64 0, .string ⟨#[]⟩, .int .i64 0, .int .i64 0, .int .i64 0]
 have hNd := hN
 unfold numLen at hNd
 rw [hk] at hNd
 rw [HE.out.1, HE.out.2.1, HE.out.2.2]
 -- WAYS
 by_cases h1 : 1 < r.size
 · obtain ⟨c, d, q, hq⟩ : ∃ c d q, r.data.toList = c :: d :: q := by
     have h2 : 1 < r.data.toList.length := by rw [size_list]; exact h1
     match r.data.toList, h2 with
     | c :: d :: q, _ => exact ⟨c, d, q, rfl⟩
   have h1i : (1 : Int) < (r.size : Int) := by omega
   have hr0 : 0 < r.size := by omega
   have h0 : r[0]'hr0 = c := head_of hq hr0
   have hv0 : (((r[0]'hr0).toNat : Nat) : Int) = ((c.toNat : Nat) : Int) := by rw [h0]
   rw [← hrl, hq] at hNd
   by_cases hc : c = 46
   · have hc0 : ((c.toNat : Nat) : Int) = 46 := by rw [hc]; rfl
     rw [hc0] at hv0
     obtain ⟨b, hb⟩ : ∃ b, figs.contains d = b := ⟨_, rfl⟩
     have hdt : dotted (c :: d :: q) = b := by rw [hc, ← hb]; rfl
     rw [hdt] at hNd
     obtain ⟨t, ht⟩ : ∃ t, r.extract 1 2 = t := ⟨_, rfl⟩
     have htl : t.data.toList = [d] := by rw [← ht]; exact drop_two hq
     have HC := Lib.hid (fun W => contains_figs t d b htl hb W)
     have h2i : (2 : Int) ≤ (r.size : Int) := by omega
     cases b with
     | true =>
       rw [if_pos rfl] at hNd
       obtain ⟨r2, hr2⟩ : ∃ r2, r.extract 1 r.size = r2 := ⟨_, rfl⟩
       have hr2l : r2.data.toList = l.drop (k + 1) := by rw [← hr2, ext_drop, hrl, List.drop_drop]
       obtain ⟨j, hj⟩ : ∃ j, runS figs (l.drop (k + 1)) = j := ⟨_, rfl⟩
       rw [hj] at hNd
       have H2 := Lib.hid (fun W => run_figs r2 j (by rw [← hr2, ext_size]; omega) (by rw [hr2l, hj]) W)
       have kj : IntKind.i64.wrap (1 + (j : Int)) = 1 + (j : Int) := IntWalk.i64_in _ (by omega)
       have kN : (k : Int) + (1 + (j : Int)) = (N : Int) := by omega
       have kN2 : IntKind.i64.wrap (N : Int) = (N : Int) := IntWalk.i64_in _ (by omega)
       have hNi : (N : Int) ≤ (s.size : Int) := by omega
       clear hNd hj hr2l htl hb hdt hc hc0 hq h0 hrl hrs hk hN hR hP hl
       go_enter Tryz.func114, Tryz.ntmps114
       go_wp2_with fail
       refine (H1.out _).mono ?_
       rintro _ w1 ⟨rfl, hw1⟩
       replace hb1 := hb1.step hw1
       go_wp2_with fail
       refine (HC.out _).mono ?_
       rintro _ _ ⟨rfl, rfl⟩
       go_wp2_with fail
       refine (H2.out _).mono ?_
       rintro _ w2 ⟨rfl, hw2⟩
       replace hb1 := hb1.step hw2
       go_wp2_with fail
       refine (HP.out _ (HW.out _ (by (repeat' first | (with_reducible first | exact .refl _ _ | assumption | apply balloc | apply Below.drew | apply bset | refine bstep ?_ ‹_› | refine bturn ?_ ‹_› ?_) | go_size)))).mono ?_
       rintro _ w9 ⟨rfl, hb9⟩
       replace hb1 := (hb1.step hb9).alloc (.cells #[.int .i64 R.n, .int .i64 R.s] 23)
       go_wp2_with (first | (refine wpList_store_blk hb1 rfl _ _ _ (by rfl) _ (by rfl) (by rfl) (by repeat first | with_reducible first | exact hb1 | apply Blk.alloc | apply Blk.drew | refine Blk.far ?_ (by simp <;> omega) _ | refine Blk.turn ?_ ‹_› (by omega)) (by rfl) (by kernel_rfl) (by simp [Value.oneCell']) ?_; intro wt hb1n ht))
       refine ret_blk3 rfl hb1n rfl Tryz.underlying101 rfl (by kernel_rfl) rfl ?_
       exact ⟨rfl, by (repeat' first | (with_reducible first | exact .refl _ _ | assumption | apply balloc | apply Below.drew | apply bset | refine bstep ?_ ‹_› | refine bturn ?_ ‹_› ?_) | go_size)⟩
     | false =>
       rw [if_neg (by decide)] at hNd
       subst hNd
       clear htl hb hdt hc hc0 hq h0 hrl hrs hk hN hR hP hl
       go_enter Tryz.func114, Tryz.ntmps114
       go_wp2_with fail
       refine (H1.out _).mono ?_
       rintro _ w1 ⟨rfl, hw1⟩
       replace hb1 := hb1.step hw1
       go_wp2_with fail
       refine (HC.out _).mono ?_
       rintro _ _ ⟨rfl, rfl⟩
       go_wp2_with fail
       refine (HP.out _ (HW.out _ (by (repeat' first | (with_reducible first | exact .refl _ _ | assumption | apply balloc | apply Below.drew | apply bset | refine bstep ?_ ‹_› | refine bturn ?_ ‹_› ?_) | go_size)))).mono ?_
       rintro _ w9 ⟨rfl, hb9⟩
       replace hb1 := (hb1.step hb9).alloc (.cells #[.int .i64 R.n, .int .i64 R.s] 23)
       go_wp2_with (first | (refine wpList_store_blk hb1 rfl _ _ _ (by rfl) _ (by rfl) (by rfl) (by repeat first | with_reducible first | exact hb1 | apply Blk.alloc | apply Blk.drew | refine Blk.far ?_ (by simp <;> omega) _ | refine Blk.turn ?_ ‹_› (by omega)) (by rfl) (by kernel_rfl) (by simp [Value.oneCell']) ?_; intro wt hb1n ht))
       refine ret_blk3 rfl hb1n rfl Tryz.underlying101 rfl (by kernel_rfl) rfl ?_
       exact ⟨rfl, by (repeat' first | (with_reducible first | exact .refl _ _ | assumption | apply balloc | apply Below.drew | apply bset | refine bstep ?_ ‹_› | refine bturn ?_ ‹_› ?_) | go_size)⟩
   · have hdt : dotted (c :: d :: q) = false := by simp [dotted, hc]
     rw [hdt, if_neg (by decide)] at hNd
     subst hNd
     have hc0 : ¬ ((c.toNat : Nat) : Int) = 46 := fun e => hc (UInt8.toNat_inj.1 (by rw [show (46 : UInt8).toNat = 46 from rfl]; omega))
     rw [← hv0] at hc0
     clear hdt hc hq h0 hrl hrs hk hN hR hP hl hv0
     go_enter Tryz.func114, Tryz.ntmps114
     go_wp2_with fail
     refine (H1.out _).mono ?_
     rintro _ w1 ⟨rfl, hw1⟩
     replace hb1 := hb1.step hw1
     go_wp2_with fail
     refine (HP.out _ (HW.out _ (by (repeat' first | (with_reducible first | exact .refl _ _ | assumption | apply balloc | apply Below.drew | apply bset | refine bstep ?_ ‹_› | refine bturn ?_ ‹_› ?_) | go_size)))).mono ?_
     rintro _ w9 ⟨rfl, hb9⟩
     replace hb1 := (hb1.step hb9).alloc (.cells #[.int .i64 R.n, .int .i64 R.s] 23)
     go_wp2_with (first | (refine wpList_store_blk hb1 rfl _ _ _ (by rfl) _ (by rfl) (by rfl) (by repeat first | with_reducible first | exact hb1 | apply Blk.alloc | apply Blk.drew | refine Blk.far ?_ (by simp <;> omega) _ | refine Blk.turn ?_ ‹_› (by omega)) (by rfl) (by kernel_rfl) (by simp [Value.oneCell']) ?_; intro wt hb1n ht))
     refine ret_blk3 rfl hb1n rfl Tryz.underlying101 rfl (by kernel_rfl) rfl ?_
     exact ⟨rfl, by (repeat' first | (with_reducible first | exact .refl _ _ | assumption | apply balloc | apply Below.drew | apply bset | refine bstep ?_ ‹_› | refine bturn ?_ ‹_› ?_) | go_size)⟩
 · have hdt : dotted (l.drop k) = false := by
     cases hb : dotted (l.drop k) with
     | false => rfl
     | true =>
       have := dotted_len hb
       rw [← hrl, size_list] at this
       omega
   rw [hdt, if_neg (by decide)] at hNd
   subst hNd
   have h1i : ¬ (1 : Int) < (r.size : Int) := by omega
   clear hdt hrl hrs hk hN hR hP hl
   go_enter Tryz.func114, Tryz.ntmps114
   go_wp2_with fail
   refine (H1.out _).mono ?_
   rintro _ w1 ⟨rfl, hw1⟩
   replace hb1 := hb1.step hw1
   go_wp2_with fail
   refine (HP.out _ (HW.out _ (by (repeat' first | (with_reducible first | exact .refl _ _ | assumption | apply balloc | apply Below.drew | apply bset | refine bstep ?_ ‹_› | refine bturn ?_ ‹_› ?_) | go_size)))).mono ?_
   rintro _ w9 ⟨rfl, hb9⟩
   replace hb1 := (hb1.step hb9).alloc (.cells #[.int .i64 R.n, .int .i64 R.s] 23)
   go_wp2_with (first | (refine wpList_store_blk hb1 rfl _ _ _ (by rfl) _ (by rfl) (by rfl) (by repeat first | with_reducible first | exact hb1 | apply Blk.alloc | apply Blk.drew | refine Blk.far ?_ (by simp <;> omega) _ | refine Blk.turn ?_ ‹_› (by omega)) (by rfl) (by kernel_rfl) (by simp [Value.oneCell']) ?_; intro wt hb1n ht))
   refine ret_blk3 rfl hb1n rfl Tryz.underlying101 rfl (by kernel_rfl) rfl ?_
   exact ⟨rfl, by (repeat' first | (with_reducible first | exact .refl _ _ | assumption | apply balloc | apply Below.drew | apply bset | refine bstep ?_ ‹_› | refine bturn ?_ ‹_› ?_) | go_size)⟩
end Go.Proofs.YtapilekangmcoaaGreatDoor
namespace Go.Proofs.YtapilekangmcoaaGreatDoor
open Go.RowKit
/-- Rows of other things than bytes are as they were, but for block b. -/
structure Kp (b : Nat) (w w' : World) : Prop where
 size : w.heap.size ≤ w'.heap.size
 row : ∀ (g : Nat) (T : TypeId) (cs : Array Value), T ≠ 5 → g ≠ b → Blk w g T cs → Blk w' g T cs
theorem Kp.refl (b : Nat) (w : World) : Kp b w w := ⟨Nat.le_refl _, fun _ _ _ _ _ h => h⟩
theorem Kp.trans {b : Nat} {w1 w2 w3 : World} (h : Kp b w1 w2) (k : Kp b w2 w3) : Kp b w1 w3 := ⟨Nat.le_trans h.size k.size, fun g T cs ht hg hB => k.row g T cs ht hg (h.row g T cs ht hg hB)⟩
theorem Kp.of {b : Nat} {w w' : World} (h : Below w.heap.size w w') : Kp b w w' := ⟨h.size, fun _ _ _ _ _ hB => hB.step h⟩
theorem Kp.set (b : Nat) (w : World) (i : Nat) (u : Value) : Kp b w (w.setCell ⟨b, i, none⟩ u) := ⟨by simp [World.setCell], fun _ _ _ _ hg hB => hB.far hg _⟩
theorem kp_grown {b : Nat} {B n : Nat} {v : Value} {xs : List Value} {w w' : World} (hown : w.ownsRow B 5 1 v n xs) (hg : w.grownBy w' v.ownBlock) : Kp b w w' := by
 refine ⟨hg.size, fun g T cs ht _ hB => (hg.block g hB.lt fun e => ?_).trans hB⟩
 rcases hown.2 with ⟨hv, _⟩ | ⟨g2, cap, cur, hv, _, h2, _⟩
 · rw [hv] at e; cases e
 · rw [hv] at e
   have e2 : g = g2 := by simpa [Value.ownBlock] using e
   subst e2
   unfold Blk at hB
   rw [hB] at h2
   injection h2 with h2
   injection h2 with _ h3 _
   exact ht h3
theorem check_pr (B b : Nat) (l : List Value) (w : World) (h : Lib.IsBuilder 89 5 B b l w) :
   Calls Tryz.prog 133 #[.pointer (some ⟨b, 0, none⟩)] w fun e w' => e = .returned (.tuple #[]) ∧ (Lib.BuilderAt 89 5 B b (.pointer (some ⟨b, 0, none⟩)) l w' ∧ Below B w w') ∧ Kp b w w' := by
 rcases h with h | h
 · refine (check_fresh b w h.cell0 h.shape h.frozen0).mono ?_
   rintro e w' ⟨rfl, rfl⟩
   exact ⟨rfl, ⟨h.used _, (Below.refl B w).setCell (p := ⟨b, 0, none⟩) h.1 _⟩, Kp.set b w 0 _⟩
 · refine (check_used b w h.cell0).mono ?_
   rintro e w' ⟨rfl, rfl⟩
   exact ⟨rfl, ⟨h, Below.refl B _⟩, Kp.refl b _⟩
set_option maxHeartbeats 2000000 in
theorem byte_pr (B b : Nat) (l : List Value) (c : Int) (w : World) (h : Lib.IsBuilder 89 5 B b l w) (hlen : l.length + 1 ≤ 1000000000) (hBw : B ≤ w.heap.size) :
   Calls Tryz.prog 90 #[.pointer (some ⟨b, 0, none⟩), .int .u8 c] w fun e w' => e = .returned .nilIface ∧ Lib.BuilderAt 89 5 B b (.pointer (some ⟨b, 0, none⟩)) (l ++ [.int .u8 c]) w' ∧ Below B w w' ∧ Kp b w w' := by
 obtain ⟨i0, hi, hz0, hz1, hz2⟩ := info_parts infoU8
 go_enter Tryz.func90, Tryz.ntmps90
 go_wp2_with (go_at_call 133; refine (check_pr B b l _ h).mono ?_)
 rintro e w1 ⟨rfl, ⟨h1, hb1⟩, hkp⟩
 obtain ⟨hB, v, hbk, hown, hne⟩ := h1
 have c0 : w1.cell? ⟨b, 0, none⟩ = some (.pointer (some ⟨b, 0, none⟩)) := by rw [Lib.cell_of_heap hbk]; rfl
 have c1 : w1.cell? ⟨b, 1, none⟩ = some v := by rw [Lib.cell_of_heap hbk]; rfl
 go_wp2_with (at_builtin; refine wpList_append_own _ rfl _ _ 87 rfl B 5 i0 (.int .u8 0) 1 1 Tryz.underlying87 hi hz0 hz1 hz2 rfl (by decide) _ _ _ rfl (hown.alloc _) ⟨w1.heap.size, 0, none⟩ 1 1 [.int .u8 c] rfl rfl ?c1 ?c2 ?c3 ?c4 ?c5 ?_)
 case c1 =>
   intro j u hj
   match j, hj with
   | 0, hj => simp at hj; subst hj; simp [Addr.add]
 case c2 => intro u hu; simp at hu; subst hu; rfl
 case c3 => unfold maxLen; omega
 case c4 => omega
 case c5 => have := hb1.size; simp; omega
 intro v' w2 hown' hgrow _
 have hlt : b < w1.heap.size := by
   rcases Nat.lt_or_ge b w1.heap.size with h' | h'
   · exact h'
   · simp [Array.getElem?_eq_none h'] at hbk
 have hb2 : w2.heap[b]? = some (.cells #[.pointer (some ⟨b, 0, none⟩), v] 89 (0, 0)) := by
   rw [hgrow.block b (by simp; omega) (fun e => hne e.symm), Lib.alloc_old w1 _ b hlt]
   exact hbk
 have d0 : w2.cell? ⟨b, 0, none⟩ = some (.pointer (some ⟨b, 0, none⟩)) := by rw [Lib.cell_of_heap hb2]; rfl
 have d1 : w2.cell? ⟨b, 1, none⟩ = some v := by rw [Lib.cell_of_heap hb2]; rfl
 have f1 : w2.frozen? ⟨b, 1, none⟩ = false := Lib.frozen_of_heap hb2 1
 obtain ⟨g, cap, rfl⟩ : ∃ g cap, v' = .slice (some ⟨g, 0, none⟩) (l.length + 1) cap := by
   rcases hown'.2 with ⟨_, h0⟩ | ⟨g, cap, cur, hv, _⟩
   · omega
   · exact ⟨g, cap, hv⟩
 go_wp2
 go_ret
 refine ⟨rfl, ?_, ?_, ?_⟩
 · exact Lib.BuilderAt.put (T := 89) (e := 5) hB hb2 (bs' := l ++ [.int .u8 c]) (by simpa using hown') (by decide)
 · exact ((hb1.alloc (by have := hb1.size; omega) _).grown hgrow (by have := hb1.size; simp; omega) (fun k hk => (hown.lt k hk).1)).setCell (p := ⟨b, 1, none⟩) hB _
 · exact ((hkp.trans (Kp.of (balloc (Below.refl _ _) _))).trans (kp_grown (hown.alloc _) hgrow)).trans (Kp.set b _ 1 _)
set_option maxHeartbeats 2000000 in
theorem str_pr (B b : Nat) (l : List Value) (s : ByteArray) (w : World) (h : Lib.IsBuilder 89 5 B b l w) (hlen : l.length + s.size ≤ 1000000000) (hBw : B ≤ w.heap.size) :
   Calls Tryz.prog 92 #[.pointer (some ⟨b, 0, none⟩), .string s] w fun e w' => e = .returned (.tuple #[.int .i64 s.size, .nilIface]) ∧ Lib.BuilderAt 89 5 B b (.pointer (some ⟨b, 0, none⟩)) (l ++ Lib.strCells s) w' ∧ Below B w w' ∧ Kp b w w' := by
 obtain ⟨i0, hi, hz0, hz1, hz2⟩ := info_parts infoU8
 go_enter Tryz.func92, Tryz.ntmps92
 go_wp2_with (go_at_call 133; refine (check_pr B b l _ h).mono ?_)
 rintro e w1 ⟨rfl, ⟨h1, hb1⟩, hkp⟩
 obtain ⟨hB, v, hbk, hown, hne⟩ := h1
 have c0 : w1.cell? ⟨b, 0, none⟩ = some (.pointer (some ⟨b, 0, none⟩)) := by rw [Lib.cell_of_heap hbk]; rfl
 have c1 : w1.cell? ⟨b, 1, none⟩ = some v := by rw [Lib.cell_of_heap hbk]; rfl
 go_wp2_with (at_builtin; refine Lib.wpList_append_own_string _ rfl _ _ 87 9 rfl B 5 i0 Tryz.underlying87 Tryz.underlying9 hi hz0 hz1 hz2 _ _ _ rfl hown s rfl ?c3 ?c4 ?c5 ?_)
 case c3 => unfold maxLen; omega
 case c4 => omega
 case c5 => have := hb1.size; omega
 intro v' w2 hown' hgrow _
 have hlt : b < w1.heap.size := (Array.getElem?_eq_some_iff.1 hbk).1
 have hb2 : w2.heap[b]? = some (.cells #[.pointer (some ⟨b, 0, none⟩), v] 89 (0, 0)) := by
   rw [hgrow.block b hlt (fun e => hne e.symm)]
   exact hbk
 have d0 : w2.cell? ⟨b, 0, none⟩ = some (.pointer (some ⟨b, 0, none⟩)) := by rw [Lib.cell_of_heap hb2]; rfl
 have d1 : w2.cell? ⟨b, 1, none⟩ = some v := by rw [Lib.cell_of_heap hb2]; rfl
 have f1 : w2.frozen? ⟨b, 1, none⟩ = false := Lib.frozen_of_heap hb2 1
 obtain ⟨ao, n', cap, rfl⟩ : ∃ ao n' cap, v' = .slice ao n' cap := by
   rcases hown'.2 with ⟨hv, _⟩ | ⟨g, cap, cur, hv, _⟩
   · exact ⟨_, _, _, hv⟩
   · exact ⟨_, _, _, hv⟩
 go_wp2
 go_ret2
 refine ⟨rfl, ?_, ?_, ?_⟩
 · exact Lib.BuilderAt.put (T := 89) (e := 5) hB hb2 (bs' := l ++ Lib.strCells s) (by simpa [Lib.strCells_length] using hown') (by decide)
 · exact (hb1.grown hgrow (by have := hb1.size; omega) (fun k hk => (hown.lt k hk).1)).setCell (p := ⟨b, 1, none⟩) hB _
 · exact (hkp.trans (kp_grown hown hgrow)).trans (Kp.set b _ 1 _)
/-- A builder that holds o. -/
theorem byte_w (B b : Nat) (o : Bs) (c : UInt8) (z : Int) (hz : ((c.toNat : Nat) : Int) = z) (w : World) (h : IsB B b o w) (hlen : o.length + 1 ≤ 1000000000) (hBw : B ≤ w.heap.size) :
   Calls Tryz.prog 90 #[.pointer (some ⟨b, 0, none⟩), .int .u8 z] w fun e w' => e = .returned .nilIface ∧ IsB B b (o ++ [c]) w' ∧ Below B w w' ∧ Kp b w w' := by
 refine (byte_pr B b (Lib.byteCells o) z w h (by rw [Lib.byteCells_length]; exact hlen) hBw).mono ?_
 rintro e w' ⟨rfl, h1, h2, h3⟩
 refine ⟨rfl, .inr ?_, h2, h3⟩
 have : Lib.byteCells o ++ [.int .u8 z] = Lib.byteCells (o ++ [c]) := by rw [← hz]; simp [Lib.byteCells]
 rw [← this]
 exact h1
theorem str_w (B b : Nat) (o : Bs) (s : ByteArray) (w : World) (h : IsB B b o w) (hlen : o.length + s.size ≤ 1000000000) (hBw : B ≤ w.heap.size) :
   Calls Tryz.prog 92 #[.pointer (some ⟨b, 0, none⟩), .string s] w fun e w' => e = .returned (.tuple #[.int .i64 s.size, .nilIface]) ∧ IsB B b (o ++ s.data.toList) w' ∧ Below B w w' ∧ Kp b w w' := by
 refine (str_pr B b (Lib.byteCells o) s w h (by rw [Lib.byteCells_length]; exact hlen) hBw).mono ?_
 rintro e w' ⟨rfl, h1, h2, h3⟩
 exact ⟨rfl, .inr (by have e : Lib.byteCells o ++ Lib.strCells s = Lib.byteCells (o ++ s.data.toList) := by simp [Lib.byteCells, Lib.strCells]
                      rw [← e]; exact h1), h2, h3⟩
end Go.Proofs.YtapilekangmcoaaGreatDoor
