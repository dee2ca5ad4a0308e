/- What stands for a text's bytes between quotes, plainly: a backslash ahead of each quote and each backslash. No program in sight. The walk of byteStringReplacer.Replace, for the two pairs that quoting asks. The walk of Replacer.Replace, for the two pairs that quoting asks. -/
import Derived.Deep.QuietTactic
import Derived.BigQuiet
import Derived.Test.YtapilekangmcoaaGreatDoorN5
import Derived.Test.YtapilekangmcoaaGreatDoorN7
set_option linter.unusedVariables false
set_option linter.unusedSimpArgs false
set_option maxHeartbeats 8000000
set_option maxRecDepth 100000
namespace Go.Proofs.YtapilekangmcoaaGreatDoor
def escC (c : UInt8) : Bs := if c = 92 then [92, 92] else if c = 34 then [92, 34] else [c]
def escB : Bs → Bs
 | [] => []
 | c :: l => escC c ++ escB l
theorem escB_app (a b : Bs) : escB (a ++ b) = escB a ++ escB b := by
 induction a with
 | nil => rfl
 | cons c l ih => simp only [List.cons_append, escB, ih, List.append_assoc]
theorem escB_take (s : Bs) (k : Nat) (h : k < s.length) : escB (s.take (k + 1)) = escB (s.take k) ++ escC (s[k]'h) := by
 have h1 : s.take (k + 1) = s.take k ++ [s[k]'h] := by rw [List.take_add_one, List.getElem?_eq_getElem h]; rfl
 rw [h1, escB_app]
 simp [escB]
theorem escC_len (c : UInt8) : (escC c).length = 1 + (if c = 34 then 1 else 0) + (if c = 92 then 1 else 0) := by
 unfold escC
 by_cases h1 : c = 92
 · subst h1; simp
 · by_cases h2 : c = 34
   · subst h2; simp
   · simp [h1, h2]
theorem escB_len (l : Bs) : (escB l).length = l.length + l.count 34 + l.count 92 := by
 induction l with
 | nil => rfl
 | cons c l ih =>
   simp only [escB, List.length_append, escC_len, ih, List.length_cons, List.count_cons, beq_iff_eq]
   by_cases h1 : c = 34 <;> by_cases h2 : c = 92 <;> simp [h1, h2] <;> omega
theorem escB_le (l : Bs) (k : Nat) : (escB (l.take k)).length ≤ (escB l).length := by
 have h : escB l = escB (l.take k) ++ escB (l.drop k) := by rw [← escB_app, List.take_append_drop]
 rw [h, List.length_append]
 omega
theorem escB_two (l : Bs) : (escB l).length ≤ 2 * l.length := by
 induction l with
 | nil => simp [escB]
 | cons c l ih =>
   simp only [escB, List.length_append, escC_len, List.length_cons]
   by_cases h1 : c = 34
   · subst h1; simp; omega
   · by_cases h2 : c = 92
     · subst h2; simp; omega
     · simp [h1, h2]; omega
theorem escC_same {c : UInt8} (h1 : c ≠ 34) (h2 : c ≠ 92) : escC c = [c] := by simp [escC, h1, h2]
theorem escB_same : ∀ (l : Bs), l.count 34 = 0 → l.count 92 = 0 → escB l = l
 | [], _, _ => rfl
 | c :: l, h1, h2 => by
   rw [List.count_cons] at h1 h2
   have e1 : c ≠ 34 := fun e => by subst e; simp at h1
   have e2 : c ≠ 92 := fun e => by subst e; simp at h2
   rw [escB, escC_same e1 e2, escB_same l (by omega) (by omega)]
   rfl
/-- How long a text becomes, of its bytes up to a place and the rest as they are. -/
theorem escB_at (l : Bs) (k : Nat) (h : k < l.length) : (escB (l.take k)).length + (escC (l[k]'h)).length ≤ (escB l).length := by
 have h1 := escB_le l (k + 1)
 rw [escB_take l k h, List.length_append] at h1
 exact h1
end Go.Proofs.YtapilekangmcoaaGreatDoor
namespace Go.Proofs.YtapilekangmcoaaGreatDoor
open Go.RowKit
def bvs (l : Bs) : List Value := l.map fun x => Value.int .u8 (x.toNat : Int)
/-- The cells of the row that is being filled. -/
def bufC (l : Bs) (N : Nat) : List Value := bvs l ++ List.replicate (N - l.length) (.int .u8 0)
theorem bvs_len (l : Bs) : (bvs l).length = l.length := by simp [bvs]
theorem buf_set (l : Bs) (N : Nat) (x : UInt8) (h : l.length < N) : (bufC l N).toArray.setIfInBounds l.length (.int .u8 (x.toNat : Int)) = (bufC (l ++ [x]) N).toArray := by
 apply Array.toList_inj.1
 rw [Array.toList_setIfInBounds]
 unfold bufC
 have h2 : N - l.length = (N - (l ++ [x]).length) + 1 := by rw [List.length_append]; simp; omega
 rw [h2, List.replicate_succ]
 have h3 : l.length = (bvs l).length + 0 := by rw [bvs_len]; rfl
 conv => lhs; rw [h3]
 rw [List.set_append_right _ _ (by omega)]
 simp [bvs]
theorem made_buf (N : Nat) : madeCells (Value.int .u8 0).cells (N * 1) = (bufC [] N).toArray := by
 apply Array.ext
 · simp [size_madeCells, bufC, bvs]
 · intro i h1 h2
   rw [size_madeCells] at h1
   simp [madeCells, bufC, bvs, Value.cells, Nat.mod_one]
theorem buf_at (l : Bs) (N i : Nat) (h1 : l.length ≤ i) (h2 : i < N) : (bufC l N).toArray[i]? = some (.int .u8 0) := by
 rw [List.getElem?_toArray]
 unfold bufC
 rw [List.getElem?_append_right (by rw [bvs_len]; exact h1), bvs_len, List.getElem?_replicate]
 rw [if_pos (by omega)]
theorem run_neq_nil (w : World) (a : Option Addr) (n c : Nat) : (binOp .neq 87 (.slice a n c) (.slice none 0 0)).run Tryz.prog w = .ok (.bool (!a.isNone)) w := by
 simp only [binOp]
 simp [Op.equal, Op.maxDepth, Lib.run_equalIn_slice_nil w 9999 87 5 a n c 0 0 Tryz.underlying87]
theorem buf_two (l : Bs) (N : Nat) (x y : UInt8) (h : l.length + 2 ≤ N) : (bufC l N).take l.length ++ [.int .u8 (x.toNat : Int), .int .u8 (y.toNat : Int)] ++ (bufC l N).drop (l.length + 2) = bufC (l ++ [x, y]) N := by
 unfold bufC
 have h1 : (bvs l ++ List.replicate (N - l.length) (Value.int .u8 0)).take l.length = bvs l := by rw [← bvs_len l, List.take_left']; rfl
 have h2 : (bvs l ++ List.replicate (N - l.length) (Value.int .u8 0)).drop (l.length + 2) = List.replicate (N - (l.length + 2)) (.int .u8 0) := by
   rw [List.drop_append, bvs_len, List.drop_eq_nil_of_le (by rw [bvs_len]; omega), List.drop_replicate]
   simp
   omega
 rw [h1, h2]
 simp [bvs]
theorem copy_buf (W w0 : World) (B bb jn N g1 c1 : Nat) (l : Bs) (x y : UInt8) (X Y : Int) (hX : (x.toNat : Int) = X) (hY : (y.toNat : Int) = Y) (hl : l.length = jn) (u0 : W.cell? ⟨g1, 0, none⟩ = some (.int .u8 X)) (u1 : W.cell? ⟨g1, 1, none⟩ = some (.int .u8 Y))
   (hB : Blk W bb 5 (bufC l N).toArray) (hj : jn + 2 ≤ N) (hb : Below B w0 W) (hBb : B ≤ bb) :
   ∃ W2, (Builtin.copy_ #[87, 87] 3 #[.slice (some ⟨bb, jn, none⟩) (N - jn) (N - jn), .slice (some ⟨g1, 0, none⟩) 2 c1]).run Tryz.prog W = .ok (.int .i64 2) W2 ∧ Blk W2 bb 5 (bufC (l ++ [x, y]) N).toArray ∧ Below B w0 W2 := by
 obtain ⟨i, hi, _, h2, _⟩ := info_parts' infoU8
 subst hX hY hl
 have hr := run_copy_row (P := Tryz.prog) W 87 87 3 5 bb l.length (N - l.length) (N - l.length) ⟨g1, 0, none⟩ 2 c1 (bufC l N).toArray 5 [.int .u8 (x.toNat : Int), .int .u8 (y.toNat : Int)] Tryz.underlying87 (by rw [hi]; exact congrArg some h2) hB (by
     show 2 = Nat.min 2 (N - l.length)
     exact (Nat.min_eq_left (by omega)).symm) (fun j v hv => by
     match j, hv with
     | 0, hv => cases hv; exact u0
     | 1, hv => cases hv; exact u1) (by
     have h3 : (bufC l N).length = N := by
       unfold bufC
       rw [List.length_append, bvs_len, List.length_replicate]
       omega
     simp only [List.length_cons, List.length_nil, List.size_toArray]
     omega) (fun v hv => by simp at hv; rcases hv with rfl | rfl <;> rfl)
 refine ⟨_, hr, ?_, below_setRow hb hBb _⟩
 have he := buf_two l N x y (by omega)
 simp only [List.length_cons, List.length_nil] at *
 rw [he]
 exact setRow_heap _ _ _ _ _ _ hB
theorem mk_buf (N : Nat) (hN : N ≤ 16000000) (w : World) : (Instr.makeSlice 87 (.int .i64 (N : Int)) (.int .i64 (N : Int))).run Tryz.prog w = .ok (.slice (some ⟨w.heap.size, 0, none⟩) N N) (w.alloc (.cells (bufC [] N).toArray 5)) := by
 obtain ⟨i, hi, h1, h2, h3⟩ := info_parts' infoU8
 have hr := run_makeSlice w 87 5 i (.int .u8 0) Tryz.underlying87 hi h1 .i64 .i64 (N : Int) (N : Int) (by omega) (by omega) (by rw [h2]; simp; omega) (by rw [h3]; simp; omega) (by omega)
 rw [h2, Int.toNat_natCast, made_buf] at hr
 exact hr
theorem rb_get {w : World} {q : Nat} {p r t : Value} (h : Blk w q 264 (RC p r t)) (x : Nat) (hx : x < 257) : w.cell? ⟨q, x, none⟩ = some (if x = 256 then t else if x = 92 then r else if x = 34 then p else .slice none 0 0) := by
 rw [h.cell x, RC_get p r t x hx]
set_option maxHeartbeats 16000000 in
theorem brep_big (q : Nat) (s : ByteArray) (hs : s.size ≤ 4000000) (h16 : 16 ≤ s.size) (w : World) (hR : RB w q) :
   Calls Tryz.prog 293 #[.pointer (some ⟨q, 0, none⟩), .string s] w fun e w' => e = .returned (.string (bs (escB s.data.toList))) ∧ Below w.heap.size w w' := by
 obtain ⟨p, r, gt, ct, hq, hp, hr, hS⟩ := hR
 obtain ⟨g1, c1, rfl, hp⟩ := hp
 obtain ⟨g2, c2, rfl, hr⟩ := hr
 have c256 : w.cell? ⟨q, 256, none⟩ = some (.slice (some ⟨gt, 0, none⟩) 2 ct) := by rw [rb_get hq 256 (by decide)]; rfl
 have c34 : w.cell? ⟨q, 34, none⟩ = some (.slice (some ⟨g1, 0, none⟩) 2 c1) := by rw [rb_get hq 34 (by decide)]; rfl
 have c92 : w.cell? ⟨q, 92, none⟩ = some (.slice (some ⟨g2, 0, none⟩) 2 c2) := by rw [rb_get hq 92 (by decide)]; rfl
 have t0 : w.cell? ⟨gt, 0, none⟩ = some (.string ⟨#[34]⟩) := hS 0 _ rfl
 have t1 : w.cell? ⟨gt, 1, none⟩ = some (.string ⟨#[92]⟩) := hS 1 _ rfl
 have HC := Lib.hid (fun x hx => rb_get hq x hx)
 have Hp := Lib.hid hp
 have Hr := Lib.hid hr
 have hsl : s.data.toList.length = s.size := by simp
 obtain ⟨k34, hk34⟩ : ∃ k, s.data.toList.count 34 = k := ⟨_, rfl⟩
 obtain ⟨k92, hk92⟩ : ∃ k, s.data.toList.count 92 = k := ⟨_, rfl⟩
 obtain ⟨N, hN⟩ : ∃ N, s.size + k34 + k92 = N := ⟨_, rfl⟩
 have HN : Hid ((escB s.data.toList).length = N ∧ s.data.toList.count 34 = k34 ∧ s.data.toList.count 92 = k92) := Lib.hid ⟨by rw [escB_len, hk34, hk92, hsl, hN], hk34, hk92⟩
 have hNs : N ≤ 2 * s.size := by
   have h1 := escB_two s.data.toList
   rw [HN.out.1, hsl] at h1
   exact h1
 have h1634 : k34 ≤ s.size := by rw [← hk34, ← hsl]; exact List.count_le_length
 have h1692 : k92 ≤ s.size := by rw [← hk92, ← hsl]; exact List.count_le_length
 have H34 := Lib.hid (fun W => Tryz.strings_Count_one s 34 W)
 have H92 := Lib.hid (fun W => Tryz.strings_Count_one s 92 W)
 simp only [Lib.countByte, hk34, hk92] at H34 H92
 clear hq hp hr hS hk34 hk92
 have m16 : (16 : Int) ≤ (s.size : Int) := by omega
 have e34 : (((⟨#[34]⟩ : ByteArray)[0]'(by decide)).toNat : Int) = 34 := rfl
 have e92 : (((⟨#[92]⟩ : ByteArray)[0]'(by decide)).toNat : Int) = 92 := rfl
 obtain ⟨m1, hm1⟩ : ∃ m, s.size + k34 = m := ⟨_, rfl⟩
 have i1 : (s.size : Int) + (k34 : Int) = (m1 : Int) := by omega
 have i2 : (m1 : Int) + (k92 : Int) = (N : Int) := by omega
 have v1 : IntKind.i64.wrap (m1 : Int) = (m1 : Int) := IntWalk.i64_in _ (by omega)
 have v2 : IntKind.i64.wrap (N : Int) = (N : Int) := IntWalk.i64_in _ (by omega)
 have v3 : IntKind.i64.wrap (k34 : Int) = (k34 : Int) := IntWalk.i64_in _ (by omega)
 have v4 : IntKind.i64.wrap (k92 : Int) = (k92 : Int) := IntWalk.i64_in _ (by omega)
 have Hm1 := Lib.hid hm1
 have HhN := Lib.hid hN
 clear hm1 hN
 go_enter Tryz.func293, Tryz.ntmps293
 go_wp2_with fail
 go_loopw [32, 5, 6, 8, 9] (fun i n f _ _ wr => ((i = .int .i64 0 ∧ n = .int .i64 (s.size : Int) ∧ f = .bool false) ∨ (i = .int .i64 1 ∧ n = .int .i64 (m1 : Int) ∧ f = .bool (decide (0 < k34))) ∨ (i = .int .i64 2 ∧ n = .int .i64 (N : Int) ∧ f = .bool (decide (0 < k34 + k92)))) ∧ Below w.heap.size w wr) (fun i _ _ _ _ _ => 2 - (intOf i).toNat)
 case atStart => exact ⟨.inl ⟨rfl, rfl, rfl⟩, Below.refl _ _⟩
 case round =>
   obtain ⟨hrel, hbr⟩ := hrel
   replace c34 := keep1 hbr c34
   replace c92 := keep1 hbr c92
   replace t0 := keep1 hbr t0
   replace t1 := keep1 hbr t1
   have Hbr := Lib.hid hbr
   clear hbr c256
   rcases hrel with ⟨rfl, rfl, rfl⟩ | ⟨rfl, rfl, rfl⟩ | ⟨rfl, rfl, rfl⟩
   · by_cases h0 : k34 = 0
     · have hm : s.size = m1 := by have := Hm1.out; omega
       have HM := Lib.hid hm
       have k0 : (k34 : Int) = 0 := by omega
       have Hh0 := Lib.hid h0
       clear hm h0 i1 v3
       go_wp2_with fail
       refine (H34.out _).mono ?_
       rintro _ _ ⟨rfl, rfl⟩
       go_wp2_with fail
       go_roundw
       case rel => exact ⟨.inr (.inl ⟨rfl, by rw [HM.out], by rw [Hh0.out]; rfl⟩), Hbr.out⟩
       case measure => simp [intOf]
     · have k0 : ¬ (k34 : Int) = 0 := by omega
       have Hd : Hid (decide (0 < k34) = true) := Lib.hid (decide_eq_true (by omega))
       clear h0
       go_wp2_with fail
       refine (H34.out _).mono ?_
       rintro _ _ ⟨rfl, rfl⟩
       go_wp2_with fail
       go_quiet (fail)
       go_wp2_with fail
       go_roundw
       case rel => exact ⟨.inr (.inl ⟨rfl, rfl, by rw [Hd.out]⟩), bdrewN Hbr.out _⟩
       case measure => simp [intOf]
   · by_cases h0 : k92 = 0
     · have hm : m1 = N := by have := Hm1.out; have := HhN.out; omega
       have HM := Lib.hid hm
       have k0 : (k92 : Int) = 0 := by omega
       have Hh0 := Lib.hid h0
       clear hm h0 i2 v4
       go_wp2_with fail
       refine (H92.out _).mono ?_
       rintro _ _ ⟨rfl, rfl⟩
       go_wp2_with fail
       go_roundw
       case rel => exact ⟨.inr (.inr ⟨rfl, by rw [HM.out], by rw [Hh0.out, Nat.add_zero]⟩), Hbr.out⟩
       case measure => simp [intOf]
     · have k0 : ¬ (k92 : Int) = 0 := by omega
       have Hd : Hid (decide (0 < k34 + k92) = true) := Lib.hid (decide_eq_true (by omega))
       clear h0
       go_wp2_with fail
       refine (H92.out _).mono ?_
       rintro _ _ ⟨rfl, rfl⟩
       go_wp2_with fail
       go_quiet (fail)
       go_wp2_with fail
       go_roundw
       case rel => exact ⟨.inr (.inr ⟨rfl, rfl, by rw [Hd.out]⟩), bdrewN Hbr.out _⟩
       case measure => simp [intOf]
   · clear i1 i2 v1 v3 v4 e34 e92 m16 t0 t1
     by_cases hz : k34 + k92 = 0
     · have hd : decide (0 < k34 + k92) = false := decide_eq_false (by omega)
       have HR : Hid (bs (escB s.data.toList) = s) := Lib.hid (by
         have h2 := HN.out.2
         rw [escB_same _ (by omega) (by omega)]
         rfl)
       clear hz
       go_wp2_with fail
       go_returns
       exact ⟨by rw [HR.out]; rfl, Hbr.out⟩
     · have hd : decide (0 < k34 + k92) = true := decide_eq_true (by omega)
       have hmk := mk_buf N (by omega)
       have HB0 := Lib.hid (show Blk (wr.alloc (.cells (bufC [] N).toArray 5)) wr.heap.size 5 (bufC [] N).toArray ∧ Below w.heap.size w (wr.alloc (.cells (bufC [] N).toArray 5)) from ⟨Blk.new _ _ _, Hbr.out.alloc Hbr.out.size _⟩)
       have hge := Hbr.out.size
       clear hz c34 c92
       go_wp2_with fail
       obtain ⟨bb, hbb⟩ : ∃ bb, wr.heap.size = bb := ⟨_, rfl⟩
       simp only [hbb] at HB0 ⊢
       rw [hbb] at hge
       clear hmk hbb Hbr
       go_loopw [14, 13, 15] (fun i j _ wv => ∃ k jn : Nat, k ≤ s.size ∧ i = .int .i64 (k : Int) ∧ j = .int .i64 (jn : Int) ∧ Hid ((escB (s.data.toList.take k)).length = jn ∧ Blk wv bb 5 (bufC (escB (s.data.toList.take k)) N).toArray ∧ Below w.heap.size w wv)) (fun i _ _ _ => s.size - (intOf i).toNat)
       case atStart => exact ⟨0, 0, by omega, rfl, rfl, Lib.hid ⟨rfl, HB0.out⟩⟩
       case round =>
         obtain ⟨k, jn, hk, rfl, rfl, HR⟩ := hrel
         by_cases hlt : k < s.size
         · have hlt2 : k < s.data.toList.length := by rw [hsl]; exact hlt
           have hget : s.data.toList[k]'hlt2 = s[k]'hlt := by simp [ByteArray.getElem_eq_getElem_data]
           have hst := escB_take s.data.toList k hlt2
           have hle := escB_at s.data.toList k hlt2
           rw [hget] at hst hle
           rw [HN.out.1, HR.out.1] at hle
           obtain ⟨k1, hk1⟩ : ∃ k1, k + 1 = k1 := ⟨_, rfl⟩
           have w4 : (k : Int) + 1 = (k1 : Int) := by omega
           have w5 : IntKind.i64.wrap (k1 : Int) = (k1 : Int) := IntWalk.i64_in _ (by omega)
           rw [hk1] at hst
           by_cases h34 : s[k]'hlt = 34
           · have dummy := True.intro
             have y1 : (((s[k]'hlt).toNat : Nat) : Int) = 34 := by rw [h34]; rfl
             rw [h34, show escC 34 = [92, 34] from rfl] at hst hle
             have hj2 : jn + 2 ≤ N := hle
             obtain ⟨_, hB, hbr⟩ := HR.out
             have d0 : wr.cell? ⟨q, 34, none⟩ = some (.slice (some ⟨g1, 0, none⟩) 2 c1) := keep1 hbr (by have := HC.out 34 (by decide); simpa using this)
             have u0 : wr.cell? ⟨g1, 0, none⟩ = some (.int .u8 92) := keep1 hbr (Hp.out 0 92 rfl)
             have u1 : wr.cell? ⟨g1, 1, none⟩ = some (.int .u8 34) := keep1 hbr (Hp.out 1 34 rfl)
             have hjN : (jn : Int) ≤ (N : Int) := by omega
             obtain ⟨j2, hj3⟩ : ∃ j, jn + 2 = j := ⟨_, rfl⟩
             have w6 : (jn : Int) + 2 = (j2 : Int) := by omega
             have w7 : IntKind.i64.wrap (j2 : Int) = (j2 : Int) := IntWalk.i64_in _ (by omega)
             have hnil := fun (W : World) (a : Option Addr) (n c : Nat) => run_neq_nil W a n c
             obtain ⟨W2, hcp, hB2, hbr2⟩ := copy_buf wr.drew w w.heap.size bb jn N g1 c1 _ 92 34 92 34 rfl rfl HR.out.1 u0 u1 hB.drew hj2 hbr.drew hge
             have hne : ¬ N = jn := by omega
             have HE := Lib.hid (show (escB (s.data.toList.take k1)).length = j2 ∧ Blk W2 bb 5 (bufC (escB (s.data.toList.take k1)) N).toArray ∧ Below w.heap.size w W2 from ⟨by rw [hst, List.length_append, HR.out.1]; exact hj3, by rw [hst]; exact hB2, hbr2⟩)
             clear hst hle hB hbr hB2 hbr2 hget h34 HC
             go_wp2_with fail
             go_region
             go_wp2_with fail
             go_roundw
             case rel => exact ⟨k1, j2, by omega, rfl, rfl, HE⟩
             case measure => simp [intOf]; omega
           · by_cases h92 : s[k]'hlt = 92
             · have dummy := True.intro
               have y1 : (((s[k]'hlt).toNat : Nat) : Int) = 92 := by rw [h92]; rfl
               rw [h92, show escC 92 = [92, 92] from rfl] at hst hle
               have hj2 : jn + 2 ≤ N := hle
               obtain ⟨_, hB, hbr⟩ := HR.out
               have d0 : wr.cell? ⟨q, 92, none⟩ = some (.slice (some ⟨g2, 0, none⟩) 2 c2) := keep1 hbr (by have := HC.out 92 (by decide); simpa using this)
               have u0 : wr.cell? ⟨g2, 0, none⟩ = some (.int .u8 92) := keep1 hbr (Hr.out 0 92 rfl)
               have u1 : wr.cell? ⟨g2, 1, none⟩ = some (.int .u8 92) := keep1 hbr (Hr.out 1 92 rfl)
               have hjN : (jn : Int) ≤ (N : Int) := by omega
               obtain ⟨j2, hj3⟩ : ∃ j, jn + 2 = j := ⟨_, rfl⟩
               have w6 : (jn : Int) + 2 = (j2 : Int) := by omega
               have w7 : IntKind.i64.wrap (j2 : Int) = (j2 : Int) := IntWalk.i64_in _ (by omega)
               have hnil := fun (W : World) (a : Option Addr) (n c : Nat) => run_neq_nil W a n c
               obtain ⟨W2, hcp, hB2, hbr2⟩ := copy_buf wr.drew w w.heap.size bb jn N g2 c2 _ 92 92 92 92 rfl rfl HR.out.1 u0 u1 hB.drew hj2 hbr.drew hge
               have hne : ¬ N = jn := by omega
               have HE := Lib.hid (show (escB (s.data.toList.take k1)).length = j2 ∧ Blk W2 bb 5 (bufC (escB (s.data.toList.take k1)) N).toArray ∧ Below w.heap.size w W2 from ⟨by rw [hst, List.length_append, HR.out.1]; exact hj3, by rw [hst]; exact hB2, hbr2⟩)
               clear hst hle hB hbr hB2 hbr2 hget h92 HC
               go_wp2_with fail
               go_region
               go_wp2_with fail
               go_roundw
               case rel => exact ⟨k1, j2, by omega, rfl, rfl, HE⟩
               case measure => simp [intOf]; omega
             · rw [escC_same h34 h92] at hst hle
               have hj2 : jn + 1 ≤ N := hle
               obtain ⟨cv, hcv⟩ : ∃ cv : Nat, (s[k]'hlt).toNat = cv := ⟨_, rfl⟩
               have y1 : (((s[k]'hlt).toNat : Nat) : Int) = (cv : Int) := by rw [hcv]
               have y2 : cv < 256 := by rw [← hcv]; exact UInt8.toNat_lt _
               have y3 : (cv : Int) < 256 := by omega
               have n34 : ¬ cv = 34 := fun e => h34 (UInt8.toNat_inj.1 (hcv.trans e))
               have n92 : ¬ cv = 92 := fun e => h92 (UInt8.toNat_inj.1 (hcv.trans e))
               have n256 : ¬ cv = 256 := by omega
               obtain ⟨_, hB, hbr⟩ := HR.out
               have d0 : wr.cell? ⟨q, cv, none⟩ = some (.slice none 0 0) := keep1 hbr (by have := HC.out cv (by omega); rw [if_neg n256, if_neg n92, if_neg n34] at this; exact this)
               have b0 : wr.cell? ⟨bb, jn, none⟩ = some (.int .u8 0) := by rw [hB.cell jn]; exact buf_at _ _ _ (by have := HR.out.1; omega) (by omega)
               have z0 := hB.frozen jn
               have hjN : (jn : Int) < (N : Int) := by omega
               have hjN' : jn < N := by omega
               obtain ⟨j2, hj3⟩ : ∃ j, jn + 1 = j := ⟨_, rfl⟩
               have w6 : (jn : Int) + 1 = (j2 : Int) := by omega
               have w7 : IntKind.i64.wrap (j2 : Int) = (j2 : Int) := IntWalk.i64_in _ (by omega)
               have hnil := fun (W : World) (a : Option Addr) (n c : Nat) => run_neq_nil W a n c
               have HE := Lib.hid (show (escB (s.data.toList.take k1)).length = j2 ∧ Blk (wr.setCell ⟨bb, jn, none⟩ (.int .u8 (cv : Int))) bb 5 (bufC (escB (s.data.toList.take k1)) N).toArray ∧ Below w.heap.size w (wr.setCell ⟨bb, jn, none⟩ (.int .u8 (cv : Int))) from
                 ⟨by rw [hst, List.length_append, HR.out.1]; exact hj3, by rw [hst]; exact hB.setQ jn _ _ (by rw [← hcv]; have := buf_set (escB (s.data.toList.take k)) N (s[k]'hlt) (by have := HR.out.1; omega); rw [HR.out.1] at this; exact this), hbr.setCell hge _⟩)
               clear hst hle hB hbr hget h34 h92 HC hcv n34 n92 n256
               go_wp2_with fail
               go_roundw
               case rel => exact ⟨k1, j2, by omega, rfl, rfl, HE⟩
               case measure => simp [intOf]; omega
         · obtain rfl : k = s.size := by omega
           have htk : s.data.toList.take s.size = s.data.toList := List.take_of_length_le (by rw [hsl]; exact Nat.le_refl _)
           obtain ⟨he, hB, hbr⟩ := HR.out
           rw [htk] at he hB
           have hcv : (convert 87 9 (.slice (some ⟨bb, 0, none⟩) N N)).run Tryz.prog wr = .ok (.string (bs (escB s.data.toList))) wr := by
             have h := run_convert_bytes_back (P := Tryz.prog) wr 87 9 5 ⟨bb, 0, none⟩ N (escB s.data.toList) Tryz.underlying87 Tryz.underlying5 Tryz.underlying9 (fun j hj => by
               rw [show (⟨bb, 0, none⟩ : Addr).add j = ⟨bb, j, none⟩ by unfold Addr.add; split <;> simp_all]
               rw [hB.cell j, List.getElem?_toArray]
               unfold bufC
               rw [List.getElem?_append_left (by rw [bvs_len]; exact hj)]
               simp [bvs, hj])
             rw [HN.out.1] at h
             exact h
           have Hbr := Lib.hid hbr
           clear he hB hbr htk HN
           go_wp2_with fail
           go_returns
           exact ⟨rfl, Hbr.out⟩
set_option maxHeartbeats 16000000 in
theorem brep_small (q : Nat) (s : ByteArray) (hs : s.size ≤ 4000000) (h16 : ¬ 16 ≤ s.size) (w : World) (hR : RB w q) :
   Calls Tryz.prog 293 #[.pointer (some ⟨q, 0, none⟩), .string s] w fun e w' => e = .returned (.string (bs (escB s.data.toList))) ∧ Below w.heap.size w w' := by
 obtain ⟨p, r, gt, ct, hq, hp, hr, hS⟩ := hR
 obtain ⟨g1, c1, rfl, hp⟩ := hp
 obtain ⟨g2, c2, rfl, hr⟩ := hr
 have c256 : w.cell? ⟨q, 256, none⟩ = some (.slice (some ⟨gt, 0, none⟩) 2 ct) := by rw [rb_get hq 256 (by decide)]; rfl
 have c34 : w.cell? ⟨q, 34, none⟩ = some (.slice (some ⟨g1, 0, none⟩) 2 c1) := by rw [rb_get hq 34 (by decide)]; rfl
 have c92 : w.cell? ⟨q, 92, none⟩ = some (.slice (some ⟨g2, 0, none⟩) 2 c2) := by rw [rb_get hq 92 (by decide)]; rfl
 have t0 : w.cell? ⟨gt, 0, none⟩ = some (.string ⟨#[34]⟩) := hS 0 _ rfl
 have t1 : w.cell? ⟨gt, 1, none⟩ = some (.string ⟨#[92]⟩) := hS 1 _ rfl
 have HC := Lib.hid (fun x hx => rb_get hq x hx)
 have Hp := Lib.hid hp
 have Hr := Lib.hid hr
 have hsl : s.data.toList.length = s.size := by simp
 obtain ⟨k34, hk34⟩ : ∃ k, s.data.toList.count 34 = k := ⟨_, rfl⟩
 obtain ⟨k92, hk92⟩ : ∃ k, s.data.toList.count 92 = k := ⟨_, rfl⟩
 obtain ⟨N, hN⟩ : ∃ N, s.size + k34 + k92 = N := ⟨_, rfl⟩
 have HN : Hid ((escB s.data.toList).length = N ∧ s.data.toList.count 34 = k34 ∧ s.data.toList.count 92 = k92) := Lib.hid ⟨by rw [escB_len, hk34, hk92, hsl, hN], hk34, hk92⟩
 have hNs : N ≤ 2 * s.size := by
   have h1 := escB_two s.data.toList
   rw [HN.out.1, hsl] at h1
   exact h1
 have h1634 : k34 ≤ s.size := by rw [← hk34, ← hsl]; exact List.count_le_length
 have h1692 : k92 ≤ s.size := by rw [← hk92, ← hsl]; exact List.count_le_length
 have H34 := Lib.hid (fun W => Tryz.strings_Count_one s 34 W)
 have H92 := Lib.hid (fun W => Tryz.strings_Count_one s 92 W)
 simp only [Lib.countByte, hk34, hk92] at H34 H92
 clear hq hp hr hS hk34 hk92
 have m16 : ¬ (16 : Int) ≤ (s.size : Int) := by omega
 have hnil := fun (W : World) (a : Option Addr) (n c : Nat) => run_neq_nil W a n c
 have v2 : IntKind.i64.wrap (N : Int) = (N : Int) := IntWalk.i64_in _ (by omega)
 have HhN := Lib.hid hN
 clear hN H34 H92 t0 t1
 go_enter Tryz.func293, Tryz.ntmps293
 go_wp2_with fail
 go_loopw [10, 5, 6, 11] (fun i n f _ wr => ∃ (k nn : Nat) (fl : Bool), k ≤ s.size ∧ i = .int .i64 (k : Int) ∧ n = .int .i64 (nn : Int) ∧ f = .bool fl ∧ Hid (nn + k = (escB (s.data.toList.take k)).length + s.size ∧ fl = decide (0 < (s.data.toList.take k).count 34 + (s.data.toList.take k).count 92)) ∧ Below w.heap.size w wr) (fun i _ _ _ _ => s.size - (intOf i).toNat)
 case atStart => exact ⟨0, s.size, false, by omega, rfl, rfl, rfl, Lib.hid ⟨by simp [escB], by simp⟩, Below.refl _ _⟩
 case round =>
   obtain ⟨k, nn, fl, hk, rfl, rfl, rfl, HR, hbr⟩ := hrel
   replace c34 := keep1 hbr c34
   replace c92 := keep1 hbr c92
   have Hbr := Lib.hid hbr
   by_cases hlt : k < s.size
   · have hlt2 : k < s.data.toList.length := by rw [hsl]; exact hlt
     have hget : s.data.toList[k]'hlt2 = s[k]'hlt := by simp [ByteArray.getElem_eq_getElem_data]
     have hst := escB_take s.data.toList k hlt2
     have hc1 : s.data.toList.take (k + 1) = s.data.toList.take k ++ [s.data.toList[k]'hlt2] := by rw [List.take_add_one, List.getElem?_eq_getElem hlt2]; rfl
     rw [hget] at hst hc1
     obtain ⟨k1, hk1⟩ : ∃ k1, k + 1 = k1 := ⟨_, rfl⟩
     have w4 : (k : Int) + 1 = (k1 : Int) := by omega
     have w5 : IntKind.i64.wrap (k1 : Int) = (k1 : Int) := IntWalk.i64_in _ (by omega)
     rw [hk1] at hst hc1
     by_cases h34 : s[k]'hlt = 34
     · have dummy := hbr
       clear hbr
       have y1 : (((s[k]'hlt).toNat : Nat) : Int) = 34 := by rw [h34]; rfl
       rw [h34] at hst hc1
       have hle : nn ≤ 2 * s.size := by have := HR.out.1; have h2 := escB_two (s.data.toList.take k); rw [List.length_take] at h2; omega
       obtain ⟨n2, hn2⟩ : ∃ n, nn + 1 = n := ⟨_, rfl⟩
       have w6 : (nn : Int) + 1 = (n2 : Int) := by omega
       have w7 : IntKind.i64.wrap (n2 : Int) = (n2 : Int) := IntWalk.i64_in _ (by omega)
       have HE := Lib.hid (show n2 + k1 = (escB (s.data.toList.take k1)).length + s.size ∧ true = decide (0 < (s.data.toList.take k1).count 34 + (s.data.toList.take k1).count 92) from
         ⟨by rw [hst, List.length_append, show (escC 34).length = 2 from rfl]; have := HR.out.1; omega, by
           rw [hc1, List.count_append, List.count_append]
           exact (decide_eq_true (by first | (simp; done) | (simp; omega))).symm⟩)
       clear hst hc1 hget h34 HC
       go_wp2_with fail
       go_roundw
       case rel => exact ⟨k1, n2, true, by omega, rfl, rfl, rfl, HE, Hbr.out⟩
       case measure => simp [intOf]; omega
     · by_cases h92 : s[k]'hlt = 92
       · have dummy := hbr
         clear hbr
         have y1 : (((s[k]'hlt).toNat : Nat) : Int) = 92 := by rw [h92]; rfl
         rw [h92] at hst hc1
         have hle : nn ≤ 2 * s.size := by have := HR.out.1; have h2 := escB_two (s.data.toList.take k); rw [List.length_take] at h2; omega
         obtain ⟨n2, hn2⟩ : ∃ n, nn + 1 = n := ⟨_, rfl⟩
         have w6 : (nn : Int) + 1 = (n2 : Int) := by omega
         have w7 : IntKind.i64.wrap (n2 : Int) = (n2 : Int) := IntWalk.i64_in _ (by omega)
         have HE := Lib.hid (show n2 + k1 = (escB (s.data.toList.take k1)).length + s.size ∧ true = decide (0 < (s.data.toList.take k1).count 34 + (s.data.toList.take k1).count 92) from
           ⟨by rw [hst, List.length_append, show (escC 92).length = 2 from rfl]; have := HR.out.1; omega, by
             rw [hc1, List.count_append, List.count_append]
             exact (decide_eq_true (by first | (simp; done) | (simp; omega))).symm⟩)
         clear hst hc1 hget h92 HC
         go_wp2_with fail
         go_roundw
         case rel => exact ⟨k1, n2, true, by omega, rfl, rfl, rfl, HE, Hbr.out⟩
         case measure => simp [intOf]; omega
       · rw [escC_same h34 h92] at hst
         obtain ⟨cv, hcv⟩ : ∃ cv : Nat, (s[k]'hlt).toNat = cv := ⟨_, rfl⟩
         have y1 : (((s[k]'hlt).toNat : Nat) : Int) = (cv : Int) := by rw [hcv]
         have y2 : cv < 256 := by rw [← hcv]; exact UInt8.toNat_lt _
         have y3 : (cv : Int) < 256 := by omega
         have n34 : ¬ cv = 34 := fun e => h34 (UInt8.toNat_inj.1 (hcv.trans e))
         have n92 : ¬ cv = 92 := fun e => h92 (UInt8.toNat_inj.1 (hcv.trans e))
         have n256 : ¬ cv = 256 := by omega
         have d0 : wr.cell? ⟨q, cv, none⟩ = some (.slice none 0 0) := keep1 hbr (by have := HC.out cv (by omega); rw [if_neg n256, if_neg n92, if_neg n34] at this; exact this)
         have HE := Lib.hid (show nn + k1 = (escB (s.data.toList.take k1)).length + s.size ∧ fl = decide (0 < (s.data.toList.take k1).count 34 + (s.data.toList.take k1).count 92) from
           ⟨by rw [hst, List.length_append, show [s[k]'hlt].length = 1 from rfl]; have := HR.out.1; omega, by
             rw [hc1, List.count_append, List.count_append, HR.out.2, List.count_singleton, List.count_singleton]
             have e1 : (s[k]'hlt == 34) = false := by simpa using h34
             have e2 : (s[k]'hlt == 92) = false := by simpa using h92
             rw [e1, e2]
             simp⟩)
         clear hst hc1 hget h34 h92 HC hcv n34 n92 n256 hbr
         go_wp2_with fail
         go_roundw
         case rel => exact ⟨k1, nn, fl, by omega, rfl, rfl, rfl, HE, Hbr.out⟩
         case measure => simp [intOf]; omega
   · obtain rfl : k = s.size := by omega
     have htk : s.data.toList.take s.size = s.data.toList := List.take_of_length_le (by rw [hsl]; exact Nat.le_refl _)
     obtain ⟨he1, he2⟩ := HR.out
     rw [htk] at he1 he2
     rw [HN.out.1] at he1
     rw [HN.out.2.1, HN.out.2.2] at he2
     obtain rfl : N = nn := by omega
     subst he2
     clear he1 HR htk hbr hnil m16
     by_cases hz : k34 + k92 = 0
     · have hd : decide (0 < k34 + k92) = false := decide_eq_false (by omega)
       have HR : Hid (bs (escB s.data.toList) = s) := Lib.hid (by
         have h2 := HN.out.2
         rw [escB_same _ (by omega) (by omega)]
         rfl)
       clear hz
       go_wp2_with fail
       go_returns
       exact ⟨by rw [HR.out]; rfl, Hbr.out⟩
     · have hd : decide (0 < k34 + k92) = true := decide_eq_true (by omega)
       have hmk := mk_buf N (by omega)
       have HB0 := Lib.hid (show Blk (wr.alloc (.cells (bufC [] N).toArray 5)) wr.heap.size 5 (bufC [] N).toArray ∧ Below w.heap.size w (wr.alloc (.cells (bufC [] N).toArray 5)) from ⟨Blk.new _ _ _, Hbr.out.alloc Hbr.out.size _⟩)
       have hge := Hbr.out.size
       clear hz c34 c92
       go_wp2_with fail
       obtain ⟨bb, hbb⟩ : ∃ bb, wr.heap.size = bb := ⟨_, rfl⟩
       simp only [hbb] at HB0 ⊢
       rw [hbb] at hge
       clear hmk hbb Hbr
       go_loopw [14, 13, 15] (fun i j _ wv => ∃ k jn : Nat, k ≤ s.size ∧ i = .int .i64 (k : Int) ∧ j = .int .i64 (jn : Int) ∧ Hid ((escB (s.data.toList.take k)).length = jn ∧ Blk wv bb 5 (bufC (escB (s.data.toList.take k)) N).toArray ∧ Below w.heap.size w wv)) (fun i _ _ _ => s.size - (intOf i).toNat)
       case atStart => exact ⟨0, 0, by omega, rfl, rfl, Lib.hid ⟨rfl, HB0.out⟩⟩
       case round =>
         obtain ⟨k, jn, hk, rfl, rfl, HR⟩ := hrel
         by_cases hlt : k < s.size
         · have hlt2 : k < s.data.toList.length := by rw [hsl]; exact hlt
           have hget : s.data.toList[k]'hlt2 = s[k]'hlt := by simp [ByteArray.getElem_eq_getElem_data]
           have hst := escB_take s.data.toList k hlt2
           have hle := escB_at s.data.toList k hlt2
           rw [hget] at hst hle
           rw [HN.out.1, HR.out.1] at hle
           obtain ⟨k1, hk1⟩ : ∃ k1, k + 1 = k1 := ⟨_, rfl⟩
           have w4 : (k : Int) + 1 = (k1 : Int) := by omega
           have w5 : IntKind.i64.wrap (k1 : Int) = (k1 : Int) := IntWalk.i64_in _ (by omega)
           rw [hk1] at hst
           by_cases h34 : s[k]'hlt = 34
           · have dummy := True.intro
             have y1 : (((s[k]'hlt).toNat : Nat) : Int) = 34 := by rw [h34]; rfl
             rw [h34, show escC 34 = [92, 34] from rfl] at hst hle
             have hj2 : jn + 2 ≤ N := hle
             obtain ⟨_, hB, hbr⟩ := HR.out
             have d0 : wr.cell? ⟨q, 34, none⟩ = some (.slice (some ⟨g1, 0, none⟩) 2 c1) := keep1 hbr (by have := HC.out 34 (by decide); simpa using this)
             have u0 : wr.cell? ⟨g1, 0, none⟩ = some (.int .u8 92) := keep1 hbr (Hp.out 0 92 rfl)
             have u1 : wr.cell? ⟨g1, 1, none⟩ = some (.int .u8 34) := keep1 hbr (Hp.out 1 34 rfl)
             have hjN : (jn : Int) ≤ (N : Int) := by omega
             obtain ⟨j2, hj3⟩ : ∃ j, jn + 2 = j := ⟨_, rfl⟩
             have w6 : (jn : Int) + 2 = (j2 : Int) := by omega
             have w7 : IntKind.i64.wrap (j2 : Int) = (j2 : Int) := IntWalk.i64_in _ (by omega)
             have hnil := fun (W : World) (a : Option Addr) (n c : Nat) => run_neq_nil W a n c
             obtain ⟨W2, hcp, hB2, hbr2⟩ := copy_buf wr.drew w w.heap.size bb jn N g1 c1 _ 92 34 92 34 rfl rfl HR.out.1 u0 u1 hB.drew hj2 hbr.drew hge
             have hne : ¬ N = jn := by omega
             have HE := Lib.hid (show (escB (s.data.toList.take k1)).length = j2 ∧ Blk W2 bb 5 (bufC (escB (s.data.toList.take k1)) N).toArray ∧ Below w.heap.size w W2 from ⟨by rw [hst, List.length_append, HR.out.1]; exact hj3, by rw [hst]; exact hB2, hbr2⟩)
             clear hst hle hB hbr hB2 hbr2 hget h34 HC
             go_wp2_with fail
             go_region
             go_wp2_with fail
             go_roundw
             case rel => exact ⟨k1, j2, by omega, rfl, rfl, HE⟩
             case measure => simp [intOf]; omega
           · by_cases h92 : s[k]'hlt = 92
             · have dummy := True.intro
               have y1 : (((s[k]'hlt).toNat : Nat) : Int) = 92 := by rw [h92]; rfl
               rw [h92, show escC 92 = [92, 92] from rfl] at hst hle
               have hj2 : jn + 2 ≤ N := hle
               obtain ⟨_, hB, hbr⟩ := HR.out
               have d0 : wr.cell? ⟨q, 92, none⟩ = some (.slice (some ⟨g2, 0, none⟩) 2 c2) := keep1 hbr (by have := HC.out 92 (by decide); simpa using this)
               have u0 : wr.cell? ⟨g2, 0, none⟩ = some (.int .u8 92) := keep1 hbr (Hr.out 0 92 rfl)
               have u1 : wr.cell? ⟨g2, 1, none⟩ = some (.int .u8 92) := keep1 hbr (Hr.out 1 92 rfl)
               have hjN : (jn : Int) ≤ (N : Int) := by omega
               obtain ⟨j2, hj3⟩ : ∃ j, jn + 2 = j := ⟨_, rfl⟩
               have w6 : (jn : Int) + 2 = (j2 : Int) := by omega
               have w7 : IntKind.i64.wrap (j2 : Int) = (j2 : Int) := IntWalk.i64_in _ (by omega)
               have hnil := fun (W : World) (a : Option Addr) (n c : Nat) => run_neq_nil W a n c
               obtain ⟨W2, hcp, hB2, hbr2⟩ := copy_buf wr.drew w w.heap.size bb jn N g2 c2 _ 92 92 92 92 rfl rfl HR.out.1 u0 u1 hB.drew hj2 hbr.drew hge
               have hne : ¬ N = jn := by omega
               have HE := Lib.hid (show (escB (s.data.toList.take k1)).length = j2 ∧ Blk W2 bb 5 (bufC (escB (s.data.toList.take k1)) N).toArray ∧ Below w.heap.size w W2 from ⟨by rw [hst, List.length_append, HR.out.1]; exact hj3, by rw [hst]; exact hB2, hbr2⟩)
               clear hst hle hB hbr hB2 hbr2 hget h92 HC
               go_wp2_with fail
               go_region
               go_wp2_with fail
               go_roundw
               case rel => exact ⟨k1, j2, by omega, rfl, rfl, HE⟩
               case measure => simp [intOf]; omega
             · rw [escC_same h34 h92] at hst hle
               have hj2 : jn + 1 ≤ N := hle
               obtain ⟨cv, hcv⟩ : ∃ cv : Nat, (s[k]'hlt).toNat = cv := ⟨_, rfl⟩
               have y1 : (((s[k]'hlt).toNat : Nat) : Int) = (cv : Int) := by rw [hcv]
               have y2 : cv < 256 := by rw [← hcv]; exact UInt8.toNat_lt _
               have y3 : (cv : Int) < 256 := by omega
               have n34 : ¬ cv = 34 := fun e => h34 (UInt8.toNat_inj.1 (hcv.trans e))
               have n92 : ¬ cv = 92 := fun e => h92 (UInt8.toNat_inj.1 (hcv.trans e))
               have n256 : ¬ cv = 256 := by omega
               obtain ⟨_, hB, hbr⟩ := HR.out
               have d0 : wr.cell? ⟨q, cv, none⟩ = some (.slice none 0 0) := keep1 hbr (by have := HC.out cv (by omega); rw [if_neg n256, if_neg n92, if_neg n34] at this; exact this)
               have b0 : wr.cell? ⟨bb, jn, none⟩ = some (.int .u8 0) := by rw [hB.cell jn]; exact buf_at _ _ _ (by have := HR.out.1; omega) (by omega)
               have z0 := hB.frozen jn
               have hjN : (jn : Int) < (N : Int) := by omega
               have hjN' : jn < N := by omega
               obtain ⟨j2, hj3⟩ : ∃ j, jn + 1 = j := ⟨_, rfl⟩
               have w6 : (jn : Int) + 1 = (j2 : Int) := by omega
               have w7 : IntKind.i64.wrap (j2 : Int) = (j2 : Int) := IntWalk.i64_in _ (by omega)
               have hnil := fun (W : World) (a : Option Addr) (n c : Nat) => run_neq_nil W a n c
               have HE := Lib.hid (show (escB (s.data.toList.take k1)).length = j2 ∧ Blk (wr.setCell ⟨bb, jn, none⟩ (.int .u8 (cv : Int))) bb 5 (bufC (escB (s.data.toList.take k1)) N).toArray ∧ Below w.heap.size w (wr.setCell ⟨bb, jn, none⟩ (.int .u8 (cv : Int))) from
                 ⟨by rw [hst, List.length_append, HR.out.1]; exact hj3, by rw [hst]; exact hB.setQ jn _ _ (by rw [← hcv]; have := buf_set (escB (s.data.toList.take k)) N (s[k]'hlt) (by have := HR.out.1; omega); rw [HR.out.1] at this; exact this), hbr.setCell hge _⟩)
               clear hst hle hB hbr hget h34 h92 HC hcv n34 n92 n256
               go_wp2_with fail
               go_roundw
               case rel => exact ⟨k1, j2, by omega, rfl, rfl, HE⟩
               case measure => simp [intOf]; omega
         · obtain rfl : k = s.size := by omega
           have htk : s.data.toList.take s.size = s.data.toList := List.take_of_length_le (by rw [hsl]; exact Nat.le_refl _)
           obtain ⟨he, hB, hbr⟩ := HR.out
           rw [htk] at he hB
           have hcv : (convert 87 9 (.slice (some ⟨bb, 0, none⟩) N N)).run Tryz.prog wr = .ok (.string (bs (escB s.data.toList))) wr := by
             have h := run_convert_bytes_back (P := Tryz.prog) wr 87 9 5 ⟨bb, 0, none⟩ N (escB s.data.toList) Tryz.underlying87 Tryz.underlying5 Tryz.underlying9 (fun j hj => by
               rw [show (⟨bb, 0, none⟩ : Addr).add j = ⟨bb, j, none⟩ by unfold Addr.add; split <;> simp_all]
               rw [hB.cell j, List.getElem?_toArray]
               unfold bufC
               rw [List.getElem?_append_left (by rw [bvs_len]; exact hj)]
               simp [bvs, hj])
             rw [HN.out.1] at h
             exact h
           have Hbr := Lib.hid hbr
           clear he hB hbr htk HN
           go_wp2_with fail
           go_returns
           exact ⟨rfl, Hbr.out⟩
end Go.Proofs.YtapilekangmcoaaGreatDoor
namespace Go.Proofs.YtapilekangmcoaaGreatDoor
open Go.RowKit
theorem brep_any (q : Nat) (s : ByteArray) (hs : s.size ≤ 4000000) (w : World) (hR : RB w q) :
   Calls Tryz.prog 293 #[.pointer (some ⟨q, 0, none⟩), .string s] w fun e w' => e = .returned (.string (bs (escB s.data.toList))) ∧ Below w.heap.size w w' := by
 by_cases h : 16 ≤ s.size
 · exact brep_big q s hs h w hR
 · exact brep_small q s hs h w hR
theorem replace_any (B b g c : Nat) (hB : B ≤ b) (s : ByteArray) (hs : s.size ≤ 4000000) (w : World) (hBw : B ≤ w.heap.size) (hb : Blk w b 211 (RPC 0 0 .nilIface (.slice (some ⟨g, 0, none⟩) 4 c))) (hS : SS w g repL) :
   Calls Tryz.prog 136 #[.pointer (some ⟨b, 0, none⟩), .string s] w fun e w' => e = .returned (.string (bs (escB s.data.toList))) ∧ Below B w w' := by
 have hbg : g ≠ b := by
   rintro rfl
   have h := hS 0 _ rfl
   rw [hb.cell 0] at h
   simp [RPC] at h
 have hb1 : Blk (w.setCell ⟨b, 1, none⟩ (.int .i32 1)) b 211 (RPC 0 1 .nilIface (.slice (some ⟨g, 0, none⟩) 4 c)) := hb.setQ 1 _ _ rfl
 have hS1 : SS (w.setCell ⟨b, 1, none⟩ (.int .i32 1)) g repL := fun i l hl => by
   rw [World.cell?_setCell_other _ _ _ _ (by simp [hbg])]
   exact hS i l hl
 have HD := Lib.hid (do_once b (fun w1 => VP B b (w.setCell ⟨b, 1, none⟩ (.int .i32 1)) w1 0 1) w (by rw [hb.cell 0]; rfl) (by rw [hb.cell 1]; rfl) (hb.frozen 1)
   (Lib.hid (once_rep B b g c hB _ hb1 hS1)) (Lib.hid (fun w1 h => by
     obtain ⟨q, h1, _⟩ := h
     exact ⟨by rw [h1.cell 0]; rfl, by rw [h1.cell 1]; rfl, h1.frozen 0, h1.frozen 1⟩)))
 clear hb hS hb1 hS1 hbg
 go_enter Tryz.func136, Tryz.ntmps136
 go_wp2_with fail
 refine HD.out.mono ?_
 rintro _ w2 ⟨rfl, w1, ⟨q, h1, hq, hb1⟩, rfl⟩
 have h2 : Blk ((w1.drew.setCell ⟨b, 0, none⟩ (.int .u32 1)).setCell ⟨b, 1, none⟩ (.int .i32 0)) b 211 (RPC 1 0 (.iface 265 (.pointer (some ⟨q, 0, none⟩))) (.slice none 0 0)) := (h1.drew.setQ 0 _ _ rfl).setQ 1 _ _ rfl
 have hq2 : RB ((w1.drew.setCell ⟨b, 0, none⟩ (.int .u32 1)).setCell ⟨b, 1, none⟩ (.int .i32 0)) q := (RB.far (w := w1.drew) hq h1.drew 0 _).far (h1.drew.setQ 0 _ _ rfl) 1 _
 have hb2 : Below B w ((w1.drew.setCell ⟨b, 0, none⟩ (.int .u32 1)).setCell ⟨b, 1, none⟩ (.int .i32 0)) := (((((Below.refl B w).setCell hB _).trans hb1).drew).setCell hB _).setCell hB _
 have hsz := hb2.size
 generalize (w1.drew.setCell ⟨b, 0, none⟩ (.int .u32 1)).setCell ⟨b, 1, none⟩ (.int .i32 0) = W2 at h2 hq2 hb2 hsz ⊢
 have c3 : W2.cell? ⟨b, 3, none⟩ = some (.iface 265 (.pointer (some ⟨q, 0, none⟩))) := by rw [h2.cell 3]; rfl
 have HR := Lib.hid (brep_any q s hs W2 hq2)
 have Hb2 := Lib.hid hb2
 clear h1 hq hb1 h2 hq2 hb2
 go_wp2_with fail
 refine HR.out.mono ?_
 rintro _ w3 ⟨rfl, hw3⟩
 go_wp2_with fail
 go_returns
 exact ⟨rfl, Hb2.out.trans (hw3.mono (by omega))⟩
end Go.Proofs.YtapilekangmcoaaGreatDoor
