/- The walks of expr.write at a not and at two parts. Printed by genwr2.py. The walk of expr.write at an if. Printed by genwr3.py. What expr.Text writes, for every expression. -/
import Derived.Test.YtapilekangmcoaaGreatDoorN27
import Derived.Test.YtapilekangmcoaaGreatDoorN30
import Derived.Test.YtapilekangmcoaaGreatDoorN23
import Derived.Test.YtapilekangmcoaaGreatDoorN22
set_option linter.unusedVariables false
set_option linter.unusedSimpArgs false
set_option maxHeartbeats 8000000
set_option maxRecDepth 100000
namespace Go.Proofs.YtapilekangmcoaaGreatDoor
open Go.RowKit
/-- What the levels of operators are, block by block. -/
def LVB (w : World) (g : Nat) (row : Array Value) : Prop := Blk w g 109 row ∧ ∀ n, n ≤ 4 → ∃ gs gi, row[n * 3]? = some (.slice (some ⟨gs, 0, none⟩) (levelS n).1.length (levelS n).1.length) ∧ row[n * 3 + 1]? = some (.slice (some ⟨gi, 0, none⟩) (levelS n).1.length (levelS n).1.length) ∧ row[n * 3 + 2]? = some (.bool (levelS n).2) ∧
 Blk w gs 9 ((levelS n).1.map fun q => Value.string (bs q.1)).toArray ∧ Blk w gi 3 ((levelS n).1.map fun q => Value.int .i64 q.2).toArray
set_option maxHeartbeats 4000000 in
theorem levels_blk (w : World) : Calls Tryz.prog 75 #[] w fun e w' => (∃ g row, e = .returned (.slice (some ⟨g, 0, none⟩) 5 5) ∧ w.heap.size ≤ g ∧ LVB w' g row ∧ ∀ n, n ≤ 4 → ∀ gs gi, row[n * 3]? = some (.slice (some ⟨gs, 0, none⟩) (levelS n).1.length (levelS n).1.length) → row[n * 3 + 1]? = some (.slice (some ⟨gi, 0, none⟩) (levelS n).1.length (levelS n).1.length) → w.heap.size ≤ gs ∧ w.heap.size ≤ gi) ∧ Below w.heap.size w w' := by
 go_enter Tryz.func75, Tryz.ntmps75
 go_wp2_with fail
 go_returns
 refine ⟨⟨_, _, rfl, by omega, ⟨Blk.new' _ _ _ (by simp), fun n hn => ?_⟩, fun n hn gs gi h1 h2 => ?_⟩, by (repeat' first | (with_reducible first | exact .refl _ _ | assumption | apply balloc | apply Below.drew | apply bset | refine bstep ?_ ‹_› | refine bturn ?_ ‹_› ?_) | go_size)⟩
 · match n, hn with
   | 0, _ =>
     refine ⟨_, _, rfl, rfl, rfl, ?_, ?_⟩
     · iterate 10 refine Blk.alloc ?_ _
       exact Blk.new' _ _ _ (by simp)
     · iterate 9 refine Blk.alloc ?_ _
       exact Blk.new' _ _ _ (by simp)
   | 1, _ =>
     refine ⟨_, _, rfl, rfl, rfl, ?_, ?_⟩
     · iterate 8 refine Blk.alloc ?_ _
       exact Blk.new' _ _ _ (by simp)
     · iterate 7 refine Blk.alloc ?_ _
       exact Blk.new' _ _ _ (by simp)
   | 2, _ =>
     refine ⟨_, _, rfl, rfl, rfl, ?_, ?_⟩
     · iterate 6 refine Blk.alloc ?_ _
       exact Blk.new' _ _ _ (by simp)
     · iterate 5 refine Blk.alloc ?_ _
       exact Blk.new' _ _ _ (by simp)
   | 3, _ =>
     refine ⟨_, _, rfl, rfl, rfl, ?_, ?_⟩
     · iterate 4 refine Blk.alloc ?_ _
       exact Blk.new' _ _ _ (by simp)
     · iterate 3 refine Blk.alloc ?_ _
       exact Blk.new' _ _ _ (by simp)
   | 4, _ =>
     refine ⟨_, _, rfl, rfl, rfl, ?_, ?_⟩
     · iterate 2 refine Blk.alloc ?_ _
       exact Blk.new' _ _ _ (by simp)
     · iterate 1 refine Blk.alloc ?_ _
       exact Blk.new' _ _ _ (by simp)
 · match n, hn, h1, h2 with
   | 0, _, h1, h2 =>
     injection h1 with h1
     injection h1 with h1
     injection h1 with h1
     injection h1 with h1
     injection h2 with h2
     injection h2 with h2
     injection h2 with h2
     injection h2 with h2
     exact ⟨by omega, by omega⟩
   | 1, _, h1, h2 =>
     injection h1 with h1
     injection h1 with h1
     injection h1 with h1
     injection h1 with h1
     injection h2 with h2
     injection h2 with h2
     injection h2 with h2
     injection h2 with h2
     exact ⟨by omega, by omega⟩
   | 2, _, h1, h2 =>
     injection h1 with h1
     injection h1 with h1
     injection h1 with h1
     injection h1 with h1
     injection h2 with h2
     injection h2 with h2
     injection h2 with h2
     injection h2 with h2
     exact ⟨by omega, by omega⟩
   | 3, _, h1, h2 =>
     injection h1 with h1
     injection h1 with h1
     injection h1 with h1
     injection h1 with h1
     injection h2 with h2
     injection h2 with h2
     injection h2 with h2
     injection h2 with h2
     exact ⟨by omega, by omega⟩
   | 4, _, h1, h2 =>
     injection h1 with h1
     injection h1 with h1
     injection h1 with h1
     injection h1 with h1
     injection h2 with h2
     injection h2 with h2
     injection h2 with h2
     injection h2 with h2
     exact ⟨by omega, by omega⟩
theorem lv_u8 : (109 : TypeId) ≠ 5 := by decide
theorem int_u8 : (3 : TypeId) ≠ 5 := by decide
theorem str_u8 : (9 : TypeId) ≠ 5 := by decide
theorem write_not (vk vn vs vm : Int) (q r : ByteArray) (A : Option Addr) (c b : Nat) (o : Bs) (w0 w : World) (N : Nat) (hN : N ≤ 990000000) (hb : Below w0.heap.size w0 w) (hB : IsB w0.heap.size b o w) (L : List Ex) (y0 : Ex) (hy0 : L[0]? = some y0) (hk : KD w0 A L) (L1 : L.length = 1) (KW0 : WrC w0 N y0) (hl : o.length + ((etxt y0).length + 10) ≤ N) :
   Calls Tryz.prog 63 #[.agg #[.int .i64 16, .int .i64 vk, .int .i64 vn, .int .i64 vs, .string q, .int .i64 vm, .string r, .slice A L.length c], .pointer (some ⟨b, 0, none⟩)] w fun e w' => e = .returned (.tuple #[]) ∧ IsB w0.heap.size b (o ++ (bNot ++ 40 :: (etxt y0 ++ [41]))) w' ∧ Below w0.heap.size w0 w' ∧ Kp b w w' := by
 obtain ⟨g, off, ko0, kk0, kn0, ks0, kq0, km0, kr0, kB0, kl0, kc0, rfl, hxm0, KF0⟩ := hk.get 0 y0 hy0
 have HF0 := Lib.hid KF0
 obtain ⟨T0, hT0⟩ : ∃ T, etxt y0 = T := ⟨_, rfl⟩
 have hkl0 : kl0 = y0.kids.length := by
   obtain ⟨A2, c2, h⟩ := hxm0.get
   simp only [Array.mk.injEq, List.cons.injEq, Value.slice.injEq] at h
   exact h.2.2.2.2.2.2.2.1.2.1
 have hbr0 : brT y0.kids T0 = if kl0 = 0 then T0 else 40 :: (T0 ++ [41]) := by
   unfold brT
   rw [hkl0]
   cases y0.kids with
   | nil => rfl
   | cons a r => rfl
 have KW02 : Hid (∀ W o, Below w0.heap.size w0 W → IsB w0.heap.size b o W → o.length + T0.length ≤ N → Calls Tryz.prog 63 #[.agg #[.int .i64 ko0, .int .i64 kk0, .int .i64 kn0, .int .i64 ks0, .string kq0, .int .i64 km0, .string kr0, .slice kB0 kl0 kc0], .pointer (some ⟨b, 0, none⟩)] W fun e w' => e = .returned (.tuple #[]) ∧ IsB w0.heap.size b (o ++ T0) w' ∧ Below w0.heap.size w0 w' ∧ Kp b W w') := Lib.hid fun W o h1 h2 h3 => by
   have := KW0 _ b o W hxm0 h1 h2 (by rw [hT0]; exact h3)
   rw [hT0] at this
   exact this
 obtain ⟨Y0, hY0⟩ : ∃ Y, brT y0.kids T0 = Y := ⟨_, rfl⟩
 rw [hY0] at hbr0
 have HY0 := Lib.hid hbr0
 have hyl0 : Y0.length ≤ T0.length + 2 := by rw [hbr0]; split <;> simp
 rw [hT0] at hl
 rw [hT0]
 have h1i : (0 : Int) < (L.length : Int) := by omega
 have HLen := Lib.hid hl
 clear hxm0 hkl0 hbr0 hT0 hY0 KW0 hy0 KF0 hk hl L1
 have hbl := isb_lt hB
 have hwz := hb.size
 have hA : Below w.heap.size w (((w.alloc (.cells #[.int .i64 16, .int .i64 vk, .int .i64 vn, .int .i64 vs, .string q, .int .i64 vm, .string r, .slice (some ⟨g, off, none⟩) L.length c] 33)).alloc (.cells #[.pointer (some ⟨b, 0, none⟩)] 86))) := by (repeat' first | (with_reducible first | exact .refl _ _ | assumption | apply balloc | apply Below.drew | apply bset | refine bstep ?_ ‹_› | refine bturn ?_ ‹_› ?_) | go_size)
 have hs1 : (((w.alloc (.cells #[.int .i64 16, .int .i64 vk, .int .i64 vn, .int .i64 vs, .string q, .int .i64 vm, .string r, .slice (some ⟨g, off, none⟩) L.length c] 33)).alloc (.cells #[.pointer (some ⟨b, 0, none⟩)] 86))).heap.size = w.heap.size + 2 := by simp
 have K1 := Lib.hid ((Blk.new _ _ _).alloc _ : Blk (((w.alloc (.cells #[.int .i64 16, .int .i64 vk, .int .i64 vn, .int .i64 vs, .string q, .int .i64 vm, .string r, .slice (some ⟨g, off, none⟩) L.length c] 33)).alloc (.cells #[.pointer (some ⟨b, 0, none⟩)] 86))) w.heap.size 33 #[.int .i64 16, .int .i64 vk, .int .i64 vn, .int .i64 vs, .string q, .int .i64 vm, .string r, .slice (some ⟨g, off, none⟩) L.length c])
 have P1 := Lib.hid (Blk.new' _ _ _ (by simp) : Blk (((w.alloc (.cells #[.int .i64 16, .int .i64 vk, .int .i64 vn, .int .i64 vs, .string q, .int .i64 vm, .string r, .slice (some ⟨g, off, none⟩) L.length c] 33)).alloc (.cells #[.pointer (some ⟨b, 0, none⟩)] 86))) (w.heap.size + 1) 86 #[.pointer (some ⟨b, 0, none⟩)])
 have B1 := Lib.hid (isb_below hB hA)
 have E1 := Lib.hid (bstep hb hA)
 have Q1 := Lib.hid (Kp.of hA : Kp b w (((w.alloc (.cells #[.int .i64 16, .int .i64 vk, .int .i64 vn, .int .i64 vs, .string q, .int .i64 vm, .string r, .slice (some ⟨g, off, none⟩) L.length c] 33)).alloc (.cells #[.pointer (some ⟨b, 0, none⟩)] 86))))
 clear hb hB
 go_enter Tryz.func63, Tryz.ntmps63
 go_upto_region 2 with fail
 generalize ((w.alloc (.cells #[.int .i64 16, .int .i64 vk, .int .i64 vn, .int .i64 vs, .string q, .int .i64 vm, .string r, .slice (some ⟨g, off, none⟩) L.length c] 33)).alloc (.cells #[.pointer (some ⟨b, 0, none⟩)] 86)) = w1 at *
 have k1 := K1.out
 have p1 := P1.out
 obtain ⟨hlx, hllx, qx0, qx1, qx2, qx3, qx4, qx5, qx6, qx7, zx0, zx1, zx2, zx3, zx4, zx5, zx6, zx7⟩ := bf8 k1; (try simp at qx0 qx1 qx2 qx3 qx4 qx5 qx6 qx7); have Hk1 := Lib.hid k1; clear k1
 have hlp := p1.lt; have hllp := lts hlp; have qp0 := p1.cell 0; simp at qp0; have zp0 := p1.frozen 0; have Hp1 := Lib.hid p1; clear p1
 go_wp2_with fail
 refine (str_w w0.heap.size b _ (⟨#[110, 111, 116, 40]⟩ : ByteArray) _ B1.out (by have := HLen.out; show o.length + 4 ≤ _; omega) (by omega)).mono ?_
 rintro e w2 ⟨rfl, h2, hb2, hk2⟩
 have E2 := Lib.hid (E1.out.trans hb2)
 have Q2 := Lib.hid (Q1.out.trans hk2)
 have K2 := Lib.hid (hk2.row _ _ _ expr_u8 (by omega) K1.out)
 have P2 := Lib.hid (hk2.row _ _ _ ptr_u8 (by omega) P1.out)
 have hz2 := hk2.size
 clear qx0 qx1 qx2 qx3 qx4 qx5 qx6 qx7 zx0 zx1 zx2 zx3 zx4 zx5 zx6 zx7 hlx hllx
 clear qp0 zp0 hlp hllp
 have k2 := K2.out
 have p2 := P2.out
 have B2 := Lib.hid h2
 clear h2 hb2
 obtain ⟨hlx, hllx, qx0, qx1, qx2, qx3, qx4, qx5, qx6, qx7, zx0, zx1, zx2, zx3, zx4, zx5, zx6, zx7⟩ := bf8 k2; (try simp at qx0 qx1 qx2 qx3 qx4 qx5 qx6 qx7); have Hk2 := Lib.hid k2; clear k2
 have hlp := p2.lt; have hllp := lts hlp; have qp0 := p2.cell 0; simp at qp0; have zp0 := p2.frozen 0; have Hp2 := Lib.hid p2; clear p2
 obtain ⟨y0, y1, y2, y3, y4, y5, y6, y7⟩ := HF0.out
 replace y0 := keep1 E2.out y0
 replace y1 := keep1 E2.out y1
 replace y2 := keep1 E2.out y2
 replace y3 := keep1 E2.out y3
 replace y4 := keep1 E2.out y4
 replace y5 := keep1 E2.out y5
 replace y6 := keep1 E2.out y6
 replace y7 := keep1 E2.out y7
 simp only [Nat.zero_mul, Nat.add_zero] at y0 y1 y2 y3 y4 y5 y6 y7
 have KR : Hid (∀ n, Calls Tryz.prog 63 #[.agg #[.int .i64 ko0, .int .i64 kk0, .int .i64 kn0, .int .i64 ks0, .string kq0, .int .i64 km0, .string kr0, .slice kB0 kl0 kc0], .pointer (some ⟨b, 0, none⟩)] (w2.drewN n) fun e w' => e = .returned (.tuple #[]) ∧ IsB w0.heap.size b ((o ++ (⟨#[110, 111, 116, 40]⟩ : ByteArray).data.toList) ++ T0) w' ∧ Below w0.heap.size w0 w' ∧ Kp b w2 w') := Lib.hid fun n => by
   refine (KW02.out (w2.drewN n) _ (bdrewN E2.out n) (isb_below B2.out (bdrewN (Below.refl _ _) n)) (by have := HLen.out; simp; omega)).mono ?_
   rintro e w' ⟨h1, h2, h3, h4⟩
   exact ⟨h1, h2, h3, ⟨h4.size, fun g T cs a b c => h4.row g T cs a b c⟩⟩
 go_upto_region 22 with fail
 go_cut [4] (fun z wx => z = .func (.func 89) #[] #[.pointer (some ⟨w.heap.size + 1, 0, none⟩)] ∧ IsB w0.heap.size b ((o ++ (⟨#[110, 111, 116, 40]⟩ : ByteArray).data.toList) ++ T0) wx ∧ Below w0.heap.size w0 wx ∧ Kp b w2 wx)
 case first =>
   go_region_with (go_at_call 63; refine (KR.out 1).mono ?_; rintro e wq ⟨rfl, hq1, hq2, hq3⟩)
   all_goals
     go_wp2_with fail
     go_meet
     case rel => exact ⟨rfl, by first | exact hq1 | exact isb_below hq1 (by (repeat' first | (with_reducible first | exact .refl _ _ | assumption | apply balloc | apply Below.drew | apply bset | refine bstep ?_ ‹_› | refine bturn ?_ ‹_› ?_) | go_size)), by first | exact hq2 | exact bstep hq2 (by (repeat' first | (with_reducible first | exact .refl _ _ | assumption | apply balloc | apply Below.drew | apply bset | refine bstep ?_ ‹_› | refine bturn ?_ ‹_› ?_) | go_size)), by first | exact hq3 | exact hq3.trans (Kp.of (by (repeat' first | (with_reducible first | exact .refl _ _ | assumption | apply balloc | apply Below.drew | apply bset | refine bstep ?_ ‹_› | refine bturn ?_ ‹_› ?_) | go_size)))⟩
 case rest =>
   obtain ⟨rfl, h3, hb3, hk3⟩ := hcut
   rename World => w3
   clear qx0 qx1 qx2 qx3 qx4 qx5 qx6 qx7 zx0 zx1 zx2 zx3 zx4 zx5 zx6 zx7 hlx hllx
   clear qp0 zp0 hlp hllp
   clear y0 y1 y2 y3 y4 y5 y6 y7
   have hz3 := hk3.size
   have p3 := hk3.row _ _ _ ptr_u8 (by omega) P2.out
   have hlp := p3.lt; have hllp := lts hlp; have qp0 := p3.cell 0; simp at qp0; have zp0 := p3.frozen 0; have Hp3 := Lib.hid p3; clear p3
   go_wp2_with fail
   refine (byte_w w0.heap.size b _ 41 41 rfl _ h3 (by have := HLen.out; simp; omega) (by omega)).mono ?_
   rintro e w4 ⟨rfl, h4, hb4, hk4⟩
   go_wp2_with fail
   go_returns
   exact ⟨rfl, by simpa [bNot] using h4, hb3.trans hb4, (Q2.out.trans hk3).trans hk4⟩
theorem idx_op {p : Int} (h4 : 4 ≤ p) (h15 : p ≤ 15) : ∀ k : Nat, k ≤ 4 → (lvlE p = k → ∃ j : Nat, Lib.idxOf ((levelS k).1.map (·.2)) p = (j : Int) ∧ (levelS k).1[j]? = some (signE p, p)) ∧ (lvlE p ≠ k → Lib.idxOf ((levelS k).1.map (·.2)) p < 0) := by
 refine op_cases h4 h15 (fun p => ∀ k : Nat, k ≤ 4 → (lvlE p = k → ∃ j : Nat, Lib.idxOf ((levelS k).1.map (·.2)) p = (j : Int) ∧ (levelS k).1[j]? = some (signE p, p)) ∧ (lvlE p ≠ k → Lib.idxOf ((levelS k).1.map (·.2)) p < 0)) ?_ ?_ ?_ ?_ ?_ ?_ ?_ ?_ ?_ ?_ ?_ ?_
 all_goals
   intro k hk
   match k, hk with
   | 0, _ => exact ⟨fun h => by first | exact absurd h (by decide) | exact ⟨0, rfl, rfl⟩, fun h => by first | exact absurd rfl h | decide⟩
   | 1, _ => exact ⟨fun h => by first | exact absurd h (by decide) | exact ⟨0, rfl, rfl⟩, fun h => by first | exact absurd rfl h | decide⟩
   | 2, _ => exact ⟨fun h => by first | exact absurd h (by decide) | exact ⟨0, rfl, rfl⟩ | exact ⟨1, rfl, rfl⟩ | exact ⟨2, rfl, rfl⟩ | exact ⟨3, rfl, rfl⟩ | exact ⟨4, rfl, rfl⟩ | exact ⟨5, rfl, rfl⟩, fun h => by first | exact absurd rfl h | decide⟩
   | 3, _ => exact ⟨fun h => by first | exact absurd h (by decide) | exact ⟨0, rfl, rfl⟩ | exact ⟨1, rfl, rfl⟩, fun h => by first | exact absurd rfl h | decide⟩
   | 4, _ => exact ⟨fun h => by first | exact absurd h (by decide) | exact ⟨0, rfl, rfl⟩ | exact ⟨1, rfl, rfl⟩, fun h => by first | exact absurd rfl h | decide⟩
theorem signE_len {p : Int} (h4 : 4 ≤ p) (h15 : p ≤ 15) : (signE p).length ≤ 3 := op_cases h4 h15 (fun p => (signE p).length ≤ 3) (by decide) (by decide) (by decide) (by decide) (by decide) (by decide) (by decide) (by decide) (by decide) (by decide) (by decide) (by decide)
theorem levelS_len : ∀ k : Nat, k ≤ 4 → (levelS k).1.length ≤ 6
 | 0, _ => by decide
 | 1, _ => by decide
 | 2, _ => by decide
 | 3, _ => by decide
 | 4, _ => by decide
 | k + 5, h => by omega
theorem LVB.kp {w w' : World} {b g : Nat} {row : Array Value} (h : LVB w g row) (k : Kp b w w') (hg : g ≠ b) (hn : ∀ n, n ≤ 4 → ∀ gs gi, row[n * 3]? = some (.slice (some ⟨gs, 0, none⟩) (levelS n).1.length (levelS n).1.length) → row[n * 3 + 1]? = some (.slice (some ⟨gi, 0, none⟩) (levelS n).1.length (levelS n).1.length) → gs ≠ b ∧ gi ≠ b) : LVB w' g row :=
 ⟨k.row _ _ _ lv_u8 hg h.1, fun n hl => by
   obtain ⟨gs, gi, r0, r1, r2, h3, h4⟩ := h.2 n hl
   obtain ⟨n1, n2⟩ := hn n hl gs gi r0 r1
   exact ⟨gs, gi, r0, r1, r2, k.row _ _ _ str_u8 n1 h3, k.row _ _ _ int_u8 n2 h4⟩⟩
set_option maxHeartbeats 16000000 in
theorem write_bin (vk vn vs vm : Int) (q r : ByteArray) (A : Option Addr) (c b : Nat) (o : Bs) (w0 w : World) (N : Nat) (hN : N ≤ 990000000) (hb : Below w0.heap.size w0 w) (hB : IsB w0.heap.size b o w) (p : Int) (h4 : 4 ≤ p) (h15 : p ≤ 15) (L : List Ex) (y0 y1 : Ex) (hy0 : L[0]? = some y0) (hy1 : L[1]? = some y1) (hk : KD w0 A L) (L1 : L.length = 2) (KW0 : WrC w0 N y0) (KW1 : WrC w0 N y1) (hl : o.length + ((etxt y0).length + (etxt y1).length + 20) ≤ N) :
   Calls Tryz.prog 63 #[.agg #[.int .i64 p, .int .i64 vk, .int .i64 vn, .int .i64 vs, .string q, .int .i64 vm, .string r, .slice A L.length c], .pointer (some ⟨b, 0, none⟩)] w fun e w' => e = .returned (.tuple #[]) ∧ IsB w0.heap.size b (o ++ (brT y0.kids (etxt y0) ++ 32 :: (signE p ++ 32 :: brT y1.kids (etxt y1)))) w' ∧ Below w0.heap.size w0 w' ∧ Kp b w w' := by
 obtain ⟨g, off, ko0, kk0, kn0, ks0, kq0, km0, kr0, kB0, kl0, kc0, rfl, hxm0, KF0⟩ := hk.get 0 y0 hy0
 have HF0 := Lib.hid KF0
 obtain ⟨T0, hT0⟩ : ∃ T, etxt y0 = T := ⟨_, rfl⟩
 have hkl0 : kl0 = y0.kids.length := by
   obtain ⟨A2, c2, h⟩ := hxm0.get
   simp only [Array.mk.injEq, List.cons.injEq, Value.slice.injEq] at h
   exact h.2.2.2.2.2.2.2.1.2.1
 have hbr0 : brT y0.kids T0 = if kl0 = 0 then T0 else 40 :: (T0 ++ [41]) := by
   unfold brT
   rw [hkl0]
   cases y0.kids with
   | nil => rfl
   | cons a r => rfl
 have KW02 : Hid (∀ W o, Below w0.heap.size w0 W → IsB w0.heap.size b o W → o.length + T0.length ≤ N → Calls Tryz.prog 63 #[.agg #[.int .i64 ko0, .int .i64 kk0, .int .i64 kn0, .int .i64 ks0, .string kq0, .int .i64 km0, .string kr0, .slice kB0 kl0 kc0], .pointer (some ⟨b, 0, none⟩)] W fun e w' => e = .returned (.tuple #[]) ∧ IsB w0.heap.size b (o ++ T0) w' ∧ Below w0.heap.size w0 w' ∧ Kp b W w') := Lib.hid fun W o h1 h2 h3 => by
   have := KW0 _ b o W hxm0 h1 h2 (by rw [hT0]; exact h3)
   rw [hT0] at this
   exact this
 obtain ⟨Y0, hY0⟩ : ∃ Y, brT y0.kids T0 = Y := ⟨_, rfl⟩
 rw [hY0] at hbr0
 have HY0 := Lib.hid hbr0
 have hyl0 : Y0.length ≤ T0.length + 2 := by rw [hbr0]; split <;> simp
 rw [hT0] at hl
 obtain ⟨g2, off2, ko1, kk1, kn1, ks1, kq1, km1, kr1, kB1, kl1, kc1, eA1, hxm1, KF1⟩ := hk.get 1 y1 hy1
 injection eA1 with eA1
 injection eA1 with f1 f2
 subst f1 f2
 have HF1 := Lib.hid KF1
 obtain ⟨T1, hT1⟩ : ∃ T, etxt y1 = T := ⟨_, rfl⟩
 have hkl1 : kl1 = y1.kids.length := by
   obtain ⟨A2, c2, h⟩ := hxm1.get
   simp only [Array.mk.injEq, List.cons.injEq, Value.slice.injEq] at h
   exact h.2.2.2.2.2.2.2.1.2.1
 have hbr1 : brT y1.kids T1 = if kl1 = 0 then T1 else 40 :: (T1 ++ [41]) := by
   unfold brT
   rw [hkl1]
   cases y1.kids with
   | nil => rfl
   | cons a r => rfl
 have KW12 : Hid (∀ W o, Below w0.heap.size w0 W → IsB w0.heap.size b o W → o.length + T1.length ≤ N → Calls Tryz.prog 63 #[.agg #[.int .i64 ko1, .int .i64 kk1, .int .i64 kn1, .int .i64 ks1, .string kq1, .int .i64 km1, .string kr1, .slice kB1 kl1 kc1], .pointer (some ⟨b, 0, none⟩)] W fun e w' => e = .returned (.tuple #[]) ∧ IsB w0.heap.size b (o ++ T1) w' ∧ Below w0.heap.size w0 w' ∧ Kp b W w') := Lib.hid fun W o h1 h2 h3 => by
   have := KW1 _ b o W hxm1 h1 h2 (by rw [hT1]; exact h3)
   rw [hT1] at this
   exact this
 obtain ⟨Y1, hY1⟩ : ∃ Y, brT y1.kids T1 = Y := ⟨_, rfl⟩
 rw [hY1] at hbr1
 have HY1 := Lib.hid hbr1
 have hyl1 : Y1.length ≤ T1.length + 2 := by rw [hbr1]; split <;> simp
 rw [hT1] at hl
 rw [hT0, hT1, hY0, hY1]
 have h1i : (0 : Int) < (L.length : Int) := by omega
 have h2i : (1 : Int) < (L.length : Int) := by omega
 have HLen := Lib.hid hl
 have HYL := Lib.hid (And.intro hyl0 hyl1)
 have HP := Lib.hid (And.intro h4 h15)
 have a1 : (p == 1) = false := by rw [beq_eq_false_iff_ne]; omega
 have a2 : (p == 2) = false := by rw [beq_eq_false_iff_ne]; omega
 have a3 : (p == 3) = false := by rw [beq_eq_false_iff_ne]; omega
 have a4 : (p == 16) = false := by rw [beq_eq_false_iff_ne]; omega
 have a5 : (p == 17) = false := by rw [beq_eq_false_iff_ne]; omega
 obtain ⟨S, hS⟩ : ∃ S, signE p = S := ⟨_, rfl⟩
 have HS : Hid (signE p = S ∧ S.length ≤ 3) := Lib.hid ⟨hS, by rw [← hS]; exact signE_len h4 h15⟩
 rw [hS]
 clear hxm0 hkl0 hbr0 hT0 hY0 KW0 hy0 KF0 hxm1 hkl1 hbr1 hT1 hY1 KW1 hy1 KF1 hk hl L1 hyl0 hyl1 h4 h15 hS
 have hbl := isb_lt hB
 have hwz := hb.size
 have hA : Below w.heap.size w (((w.alloc (.cells #[.int .i64 p, .int .i64 vk, .int .i64 vn, .int .i64 vs, .string q, .int .i64 vm, .string r, .slice (some ⟨g, off, none⟩) L.length c] 33)).alloc (.cells #[.pointer (some ⟨b, 0, none⟩)] 86))) := by (repeat' first | (with_reducible first | exact .refl _ _ | assumption | apply balloc | apply Below.drew | apply bset | refine bstep ?_ ‹_› | refine bturn ?_ ‹_› ?_) | go_size)
 have hs1 : (((w.alloc (.cells #[.int .i64 p, .int .i64 vk, .int .i64 vn, .int .i64 vs, .string q, .int .i64 vm, .string r, .slice (some ⟨g, off, none⟩) L.length c] 33)).alloc (.cells #[.pointer (some ⟨b, 0, none⟩)] 86))).heap.size = w.heap.size + 2 := by simp
 have K1 := Lib.hid ((Blk.new _ _ _).alloc _ : Blk (((w.alloc (.cells #[.int .i64 p, .int .i64 vk, .int .i64 vn, .int .i64 vs, .string q, .int .i64 vm, .string r, .slice (some ⟨g, off, none⟩) L.length c] 33)).alloc (.cells #[.pointer (some ⟨b, 0, none⟩)] 86))) w.heap.size 33 #[.int .i64 p, .int .i64 vk, .int .i64 vn, .int .i64 vs, .string q, .int .i64 vm, .string r, .slice (some ⟨g, off, none⟩) L.length c])
 have P1 := Lib.hid (Blk.new' _ _ _ (by simp) : Blk (((w.alloc (.cells #[.int .i64 p, .int .i64 vk, .int .i64 vn, .int .i64 vs, .string q, .int .i64 vm, .string r, .slice (some ⟨g, off, none⟩) L.length c] 33)).alloc (.cells #[.pointer (some ⟨b, 0, none⟩)] 86))) (w.heap.size + 1) 86 #[.pointer (some ⟨b, 0, none⟩)])
 have B1 := Lib.hid (isb_below hB hA)
 have E1 := Lib.hid (bstep hb hA)
 have Q1 := Lib.hid (Kp.of hA : Kp b w (((w.alloc (.cells #[.int .i64 p, .int .i64 vk, .int .i64 vn, .int .i64 vs, .string q, .int .i64 vm, .string r, .slice (some ⟨g, off, none⟩) L.length c] 33)).alloc (.cells #[.pointer (some ⟨b, 0, none⟩)] 86))))
 clear hb hB
 go_enter Tryz.func63, Tryz.ntmps63
 go_upto_region 2 with fail
 generalize ((w.alloc (.cells #[.int .i64 p, .int .i64 vk, .int .i64 vn, .int .i64 vs, .string q, .int .i64 vm, .string r, .slice (some ⟨g, off, none⟩) L.length c] 33)).alloc (.cells #[.pointer (some ⟨b, 0, none⟩)] 86)) = w1 at *
 have k1 := K1.out
 have p1 := P1.out
 obtain ⟨hlx, hllx, qx0, qx1, qx2, qx3, qx4, qx5, qx6, qx7, zx0, zx1, zx2, zx3, zx4, zx5, zx6, zx7⟩ := bf8 k1; (try simp at qx0 qx1 qx2 qx3 qx4 qx5 qx6 qx7); have Hk1 := Lib.hid k1; clear k1
 have hlp := p1.lt; have hllp := lts hlp; have qp0 := p1.cell 0; simp at qp0; have zp0 := p1.frozen 0; have Hp1 := Lib.hid p1; clear p1
 obtain ⟨y0, y1, y2, y3, y4, y5, y6, y7⟩ := HF0.out
 replace y0 := keep1 E1.out y0
 replace y1 := keep1 E1.out y1
 replace y2 := keep1 E1.out y2
 replace y3 := keep1 E1.out y3
 replace y4 := keep1 E1.out y4
 replace y5 := keep1 E1.out y5
 replace y6 := keep1 E1.out y6
 replace y7 := keep1 E1.out y7
 simp only [Nat.zero_mul, Nat.add_zero] at y0 y1 y2 y3 y4 y5 y6 y7
 go_wp2_with fail
 refine (part_any ko0 kk0 kn0 ks0 kq0 km0 kr0 kB0 kl0 kc0 (w.heap.size + 1) b _ T0 w0 w1 N hN E1.out B1.out qp0 (by have := HLen.out; omega) KW02 _ P1.out ptr_u8 (by omega)).mono ?_
 rintro e w2 ⟨rfl, h2, hb2, hk2⟩
 rw [← HY0.out] at h2
 have B2 := Lib.hid h2
 have E2 := Lib.hid hb2
 have Q2 := Lib.hid (Q1.out.trans hk2)
 have K2 := Lib.hid (hk2.row _ _ _ expr_u8 (by omega) K1.out)
 have P2 := Lib.hid (hk2.row _ _ _ ptr_u8 (by omega) P1.out)
 have hz2 := hk2.size
 clear qx0 qx1 qx2 qx3 qx4 qx5 qx6 qx7 zx0 zx1 zx2 zx3 zx4 zx5 zx6 zx7 hlx hllx
 clear qp0 zp0 hlp hllp
 clear y0 y1 y2 y3 y4 y5 y6 y7
 clear h2 hb2
 go_wp2_with fail
 refine (levels_blk w2).mono ?_
 rintro e w3 ⟨⟨g2, row, rfl, hg2, hLV, hge⟩, hb3⟩
 have B3 := Lib.hid (isb_below B2.out hb3)
 have E3 := Lib.hid (bstep E2.out hb3)
 have Q3 := Lib.hid (Q2.out.trans (Kp.of hb3))
 have K3 := Lib.hid (K2.out.step hb3)
 have P3 := Lib.hid (P2.out.step hb3)
 have hz3 := hb3.size
 have HGE : Hid (∀ n, n ≤ 4 → ∀ gs gi, row[n * 3]? = some (.slice (some ⟨gs, 0, none⟩) (levelS n).1.length (levelS n).1.length) → row[n * 3 + 1]? = some (.slice (some ⟨gi, 0, none⟩) (levelS n).1.length (levelS n).1.length) → gs ≠ b ∧ gi ≠ b) := Lib.hid fun n hn gs gi h1 h2 => by
   obtain ⟨e1, e2⟩ := hge n hn gs gi h1 h2
   exact ⟨by omega, by omega⟩
 have HLV := Lib.hid hLV
 have L0 : Hid (o ++ Y0 = if lvlE p < 0 then (o ++ Y0) ++ (32 :: (S ++ [32])) else o ++ Y0) := Lib.hid (by rw [if_neg (by omega)])
 clear hLV hge hb3 B2 E2 Q2 K2 P2
 go_wp2_with fail
 go_loopw [23, 10, 11] (fun i _ _ wr => ∃ (k : Nat) (o2 : Bs), k ≤ 5 ∧ i = .int .i64 (k : Int) ∧ Hid (o2 = (if lvlE p < k then (o ++ Y0) ++ (32 :: (S ++ [32])) else o ++ Y0) ∧ IsB w0.heap.size b o2 wr ∧ Below w0.heap.size w0 wr ∧ Kp b w wr ∧ Blk wr w.heap.size 33 #[.int .i64 p, .int .i64 vk, .int .i64 vn, .int .i64 vs, .string q, .int .i64 vm, .string r, .slice (some ⟨g, off, none⟩) L.length c] ∧ Blk wr (w.heap.size + 1) 86 #[.pointer (some ⟨b, 0, none⟩)] ∧ LVB wr g2 row) ∧ w3.heap.size ≤ wr.heap.size) (fun i _ _ _ => 5 - (intOf i).toNat)
 case atStart => exact ⟨0, _, by omega, rfl, Lib.hid ⟨L0.out, B3.out, E3.out, Q3.out, K3.out, P3.out, HLV.out⟩, Nat.le_refl _⟩
 case round =>
   clear B3 E3 Q3 K3 P3 HLV L0
   obtain ⟨k, o2, hk5, rfl, HQ, hzr⟩ := hrel
   by_cases hlt : k < 5
   · have hki : (k : Int) < 5 := by omega
     have hkn : IntKind.i64.wrap ((k : Int) + 1) = ((k + 1 : Nat) : Int) := by rw [IntWalk.i64_in _ (by omega)]; omega
     obtain ⟨gs, gi, r0, r1, r2, hs, hi⟩ := HQ.out.2.2.2.2.2.2.2 k (by omega)
     have hrw := HQ.out.2.2.2.2.2.2.1
     have s0 := (hrw.cell (k * 3)).trans r0
     have s1 := (hrw.cell (k * 3 + 1)).trans r1
     have s2 := (hrw.cell (k * 3 + 2)).trans r2
     obtain ⟨N, hN⟩ : ∃ N, (levelS k).1.length = N := ⟨_, rfl⟩
     obtain ⟨al, hal⟩ : ∃ N, (levelS k).2 = N := ⟨_, rfl⟩
     rw [hN] at s0 s1
     rw [hal] at s2
     have hgl := hrw.lt
     have HSI := Lib.hid (And.intro hs hi)
     have KX := Lib.hid HQ.out.2.2.2.2.1
     have HN := Lib.hid hN
     have HRR := Lib.hid (And.intro r0 r1)
     have kA : Blk (wr.alloc (.cells #[.slice none 0 0, .slice none 0 0, .bool false] 109)) wr.heap.size 109 #[.slice none 0 0, .slice none 0 0, .bool false] := Blk.new _ _ _
     clear hs hi hrw r0 r1 r2 hN hal
     go_upto_region 7 with (refine wpList_store_blk kA rfl _ _ _ (by rfl) _ (by rfl) (by rfl) (by repeat first | with_reducible first | exact kA | apply Blk.alloc | apply Blk.drew | refine Blk.far ?_ (by simp <;> omega) _ | refine Blk.turn ?_ ‹_› (by omega)) (by rfl) (by kernel_rfl) (by simp [Value.oneCell']) ?_; intro wt kAn ht)
     have hb4 : Below wr.heap.size wr wt := bturn (balloc (Below.refl _ _) _) ht (Nat.le_refl _)
     have kA4 := kAn
     have KA4 := Lib.hid kAn
     have kx4 := KX.out.step hb4
     have hz4 : wr.heap.size < wt.heap.size := kAn.lt
     have HSI4 := Lib.hid (And.intro (HSI.out.1.step hb4) (HSI.out.2.step hb4))
     have HQ4 := Lib.hid (And.intro (isb_below HQ.out.2.1 hb4) (And.intro (bstep HQ.out.2.2.1 hb4) (And.intro (HQ.out.2.2.2.1.trans (Kp.of hb4)) (And.intro (HQ.out.2.2.2.2.2.1.step hb4) (show LVB wt g2 row from HQ.out.2.2.2.2.2.2.kp (Kp.of hb4 : Kp b wr wt) (by omega) HGE.out)))))
     have HO2 := Lib.hid HQ.out.1
     have KIX : Hid (Calls Tryz.prog 93 #[.slice (some ⟨gi, 0, none⟩) N N, .int .i64 p] wt fun e w' => e = .returned (.int .i64 (Lib.idxOf ((levelS k).1.map (·.2)) p)) ∧ w' = wt) := Lib.hid (by
       have := Tryz.slices_Index_int gi 0 ((levelS k).1.map (·.2)).length N ((levelS k).1.map (·.2)) p wt (Nat.le_refl _) (by rw [List.length_map, HN.out]; have := levelS_len k (by omega); rw [HN.out] at this; omega) (fun j hj => by
           rw [Nat.zero_add, HSI4.out.2.cell, List.getElem?_toArray, List.getElem?_map]
           rw [List.length_map] at hj
           rw [List.getElem?_eq_getElem hj]
           simp [hj])
       rw [List.length_map, HN.out, List.take_of_length_le (by rw [List.length_map, HN.out]; exact Nat.le_refl _)] at this
       exact this)
     clear kA kAn ht s0 s1 s2 HQ hb4
     obtain ⟨hlu, hllu, qu0, qu1, qu2, zu0, zu1, zu2⟩ := bf3 kA4; (try simp at qu0 qu1 qu2); have HkA4 := Lib.hid kA4; clear kA4
     obtain ⟨hlx, hllx, qx0, qx1, qx2, qx3, qx4, qx5, qx6, qx7, zx0, zx1, zx2, zx3, zx4, zx5, zx6, zx7⟩ := bf8 kx4; (try simp at qx0 qx1 qx2 qx3 qx4 qx5 qx6 qx7); have Hkx4 := Lib.hid kx4; clear kx4
     by_cases hlv : lvlE p = k
     · obtain ⟨j, hj, hjs⟩ := (idx_op HP.out.1 HP.out.2 k (by omega)).1 hlv
       rw [hj] at KIX
       have hjN : j < N := by rw [← HN.out]; exact (List.getElem?_eq_some_iff.1 hjs).1
       have hji : (j : Int) < (N : Int) := by omega
       have hjn : ¬ (j : Int) < 0 := by omega
       have sj : wt.cell? ⟨gs, j, none⟩ = some (.string (bs S)) := by
         rw [HSI4.out.1.cell, List.getElem?_toArray, List.getElem?_map, hjs]
         show some (Value.string (bs (signE p))) = _
         rw [HS.out.1]
       obtain ⟨Sb, hSb⟩ : ∃ z, bs S = z := ⟨_, rfl⟩
       rw [hSb] at sj
       have hsz : Sb.size = S.length := by rw [← hSb, bs_size]
       have hs3 := HS.out.2
       have c1 : (1 : Nat) + Sb.size ≤ 9223372036854775807 := by omega
       have c2 : ((⟨#[32]⟩ : ByteArray) ++ Sb).size + 1 ≤ 9223372036854775807 := by rw [ByteArray.size_append]; show 1 + Sb.size + 1 ≤ _; omega
       have c3 : (1 : Nat) + Sb.size + 1 ≤ 9223372036854775807 := by omega
       have hdt : (((⟨#[32]⟩ : ByteArray) ++ Sb) ++ ⟨#[32]⟩).data.toList = 32 :: (S ++ [32]) := by
         rw [← hSb]
         simp [bs]
       have hdl : (((⟨#[32]⟩ : ByteArray) ++ Sb) ++ ⟨#[32]⟩).size ≤ 10 := by rw [ByteArray.size_append, ByteArray.size_append]; show 1 + Sb.size + 1 ≤ 10; omega
       have hol : o2.length ≤ o.length + Y0.length + 10 := by
         rw [HO2.out]
         split <;> simp <;> omega
       have KSW : Hid (∀ n, Calls Tryz.prog 92 #[.pointer (some ⟨b, 0, none⟩), .string (((⟨#[32]⟩ : ByteArray) ++ Sb) ++ ⟨#[32]⟩)] (wt.drewN n) fun e w' => (∃ z, e = .returned z) ∧ IsB w0.heap.size b (o2 ++ (32 :: (S ++ [32]))) w' ∧ Below w0.heap.size w0 w' ∧ Kp b wt w') := Lib.hid fun n => by
         refine (str_w w0.heap.size b o2 _ (wt.drewN n) (isb_below HQ4.out.1 (bdrewN (Below.refl _ _) n)) (by have := HLen.out; have := HYL.out.1; omega) (by show w0.heap.size ≤ wt.heap.size; omega)).mono ?_
         rintro e w' ⟨rfl, h1, h2, h3⟩
         rw [hdt] at h1
         exact ⟨⟨_, rfl⟩, h1, (bdrewN HQ4.out.2.1 n).trans h2, ⟨h3.size, fun g T cs a b c => h3.row g T cs a b c⟩⟩
       have HO3 : Hid (o2 ++ (32 :: (S ++ [32])) = if lvlE p < k + 1 then (o ++ Y0) ++ (32 :: (S ++ [32])) else o ++ Y0) := Lib.hid (by
         rw [HO2.out, if_neg (by omega), if_pos (by omega)])
       have p4 := HQ4.out.2.2.2.1
       clear hSb hsz hs3 hdt hdl hol hlv hj hjs
       go_wp2_with fail
       refine (KIX.out).mono ?_
       rintro e w5 ⟨rfl, rfl⟩
       have hlp := p4.lt; have hllp := lts hlp; have qp0 := p4.cell 0; simp at qp0; have zp0 := p4.frozen 0; have Hp4 := Lib.hid p4; clear p4
       go_upto_region 9 with fail
       go_region_with (go_at_call 92; refine (KSW.out _).mono ?_; rintro e wq ⟨⟨z, rfl⟩, hq1, hq2, hq3⟩)
       all_goals
         have kx6 := hq3.row _ _ _ expr_u8 (by omega) Hkx4.out
         have p6 := hq3.row _ _ _ ptr_u8 (by omega) Hp4.out
         have lv6 := Lib.hid (HQ4.out.2.2.2.2.kp hq3 (by omega) HGE.out)
         have hz6 := hq3.size
         have hk6 := HQ4.out.2.2.1.trans hq3
         clear qp0 zp0 hlp hllp qu0 qu1 qu2 zu0 zu1 zu2 hlu hllu qx0 qx1 qx2 qx3 qx4 qx5 qx6 qx7 zx0 zx1 zx2 zx3 zx4 zx5 zx6 zx7 hlx hllx sj
         go_wp2_with fail
         go_roundw
         case rel => first | exact ⟨k + 1, _, by omega, by go_num, Lib.hid ⟨HO3.out, hq1, hq2, hk6, kx6, p6, lv6.out⟩, by omega⟩ | exact ⟨k + 1, _, by omega, by go_num, Lib.hid ⟨HO3.out, isb_below hq1 (bdrewN (Below.refl _ _) _), bdrewN hq2 _, hk6.trans (Kp.of (bdrewN (Below.refl _ _) _)), kx6.drewN _, p6.drewN _, lv6.out.keep fun _ _ h _ => h⟩, by first | omega | (show _ ≤ (World.drewN _ _).heap.size; rw [World.heap_drewN]; omega)⟩
         case measure => simp [intOf]; omega
     · have hneg := (idx_op HP.out.1 HP.out.2 k (by omega)).2 hlv
       obtain ⟨z, hz⟩ : ∃ z, Lib.idxOf ((levelS k).1.map (·.2)) p = z := ⟨_, rfl⟩
       rw [hz] at KIX hneg
       have HO3 : Hid (o2 = if lvlE p < k + 1 then (o ++ Y0) ++ (32 :: (S ++ [32])) else o ++ Y0) := Lib.hid (by
         rw [HO2.out]
         by_cases h : lvlE p < k
         · rw [if_pos h, if_pos (by omega)]
         · rw [if_neg h, if_neg (by omega)])
       clear hlv hz
       go_wp2_with fail
       refine (KIX.out).mono ?_
       rintro e w5 ⟨rfl, rfl⟩
       have kx5 := Hkx4.out
       clear qu0 qu1 qu2 zu0 zu1 zu2 hlu hllu qx0 qx1 qx2 qx3 qx4 qx5 qx6 qx7 zx0 zx1 zx2 zx3 zx4 zx5 zx6 zx7 hlx hllx
       go_wp2_with fail
       go_roundw
       case rel => exact ⟨k + 1, o2, by omega, by go_num, Lib.hid ⟨HO3.out, HQ4.out.1, HQ4.out.2.1, HQ4.out.2.2.1, kx5, HQ4.out.2.2.2.1, HQ4.out.2.2.2.2⟩, by omega⟩
       case measure => simp [intOf]; omega
   · obtain rfl : k = 5 := by omega
     have ho2 : o2 = (o ++ Y0) ++ (32 :: (S ++ [32])) := by
       rw [HQ.out.1, if_pos]
       have := lvl_le (o := p)
       omega
     have HO2 := Lib.hid ho2
     have hol : o2.length = o.length + Y0.length + (S.length + 2) := by rw [ho2]; simp; omega
     have HOL := Lib.hid hol
     have kx := HQ.out.2.2.2.2.1
     have px := HQ.out.2.2.2.2.2.1
     have HPX := Lib.hid px
     have EX : Hid (Below w0.heap.size w0 wr) := Lib.hid HQ.out.2.2.1
     clear ho2 hol hlt
     obtain ⟨hlx, hllx, qx0, qx1, qx2, qx3, qx4, qx5, qx6, qx7, zx0, zx1, zx2, zx3, zx4, zx5, zx6, zx7⟩ := bf8 kx; (try simp at qx0 qx1 qx2 qx3 qx4 qx5 qx6 qx7); have Hkx := Lib.hid kx; clear kx
     have hlp := px.lt; have hllp := lts hlp; have qp0 := px.cell 0; simp at qp0; have zp0 := px.frozen 0; have Hpx := Lib.hid px; clear px
     obtain ⟨y0, y1, y2, y3, y4, y5, y6, y7⟩ := HF1.out
     replace y0 := keep1 EX.out y0
     replace y1 := keep1 EX.out y1
     replace y2 := keep1 EX.out y2
     replace y3 := keep1 EX.out y3
     replace y4 := keep1 EX.out y4
     replace y5 := keep1 EX.out y5
     replace y6 := keep1 EX.out y6
     replace y7 := keep1 EX.out y7
     simp only [Nat.one_mul] at y0 y1 y2 y3 y4 y5 y6 y7
     go_wp2_with fail
     refine (part_any ko1 kk1 kn1 ks1 kq1 km1 kr1 kB1 kl1 kc1 (w.heap.size + 1) b _ T1 w0 wr N hN EX.out HQ.out.2.1 qp0 (by have := HLen.out; have := HYL.out.1; have := HOL.out; have := HS.out.2; omega) KW12 _ HPX.out ptr_u8 (by omega)).mono ?_
     rintro e w7 ⟨rfl, h7, hb7, hk7⟩
     rw [← HY1.out, HO2.out] at h7
     clear y0 y1 y2 y3 y4 y5 y6 y7 qx0 qx1 qx2 qx3 qx4 qx5 qx6 qx7 zx0 zx1 zx2 zx3 zx4 zx5 zx6 zx7 hlx hllx qp0 zp0 hlp hllp
     go_wp2_with fail
     go_returns
     exact ⟨rfl, by simpa using h7, hb7, HQ.out.2.2.2.1.trans hk7⟩
end Go.Proofs.YtapilekangmcoaaGreatDoor
namespace Go.Proofs.YtapilekangmcoaaGreatDoor
open Go.RowKit
/-- The words of an if, as they are written. -/
def W3 : List Bs := [[105, 102, 32], [32, 116, 104, 101, 110, 32], [32, 101, 108, 115, 101, 32]]
noncomputable def pcs (L : List Ex) : List Bs := List.zipWith (fun a (y : Ex) => a ++ brT y.kids (etxt y)) W3 L
theorem pcs_at {L : List Ex} {k : Nat} {y : Ex} {W : Bs} (hy : L[k]? = some y) (hw : W3[k]? = some W) : (pcs L)[k]? = some (W ++ brT y.kids (etxt y)) := by
 unfold pcs
 rw [List.getElem?_zipWith, hw, hy]
theorem take_flat {l : List Bs} {k : Nat} {p : Bs} (h : l[k]? = some p) : (l.take (k + 1)).flatten = (l.take k).flatten ++ p := by
 rw [List.take_add_one, h]
 simp
theorem w3_len {k : Nat} {W : Bs} (h : W3[k]? = some W) : W.length ≤ 6 := by
 match k, h with
 | 0, h => simp [W3] at h; subst h; decide
 | 1, h => simp [W3] at h; subst h; decide
 | 2, h => simp [W3] at h; subst h; decide
 | k + 3, h => simp [W3] at h
theorem brT_len (K : List Ex) (T : Bs) : (brT K T).length ≤ T.length + 2 := by
 unfold brT
 split <;> simp
set_option maxHeartbeats 16000000 in
theorem write_ife (vk vn vs vm : Int) (q r : ByteArray) (A : Option Addr) (c b : Nat) (o : Bs) (w0 w : World) (N : Nat) (hN : N ≤ 990000000) (hb : Below w0.heap.size w0 w) (hB : IsB w0.heap.size b o w) (L : List Ex) (hk : KD w0 A L) (L3 : L.length = 3) (hKW : ∀ y ∈ L, WrC w0 N y) (M : Nat) (hM : ∀ y ∈ L, (etxt y).length ≤ M) (hl : o.length + 3 * (M + 20) ≤ N) :
   Calls Tryz.prog 63 #[.agg #[.int .i64 17, .int .i64 vk, .int .i64 vn, .int .i64 vs, .string q, .int .i64 vm, .string r, .slice A L.length c], .pointer (some ⟨b, 0, none⟩)] w fun e w' => e = .returned (.tuple #[]) ∧ IsB w0.heap.size b (o ++ (pcs L).flatten) w' ∧ Below w0.heap.size w0 w' ∧ Kp b w w' := by
 have HK := Lib.hid hk
 have HKW := Lib.hid hKW
 have HM := Lib.hid hM
 have HLen := Lib.hid hl
 have HL3 := Lib.hid L3
 have HPL : Hid ((pcs L).length = 3) := Lib.hid (by unfold pcs; rw [List.length_zipWith, L3]; rfl)
 clear hk hKW hM hl L3
 have hbl := isb_lt hB
 have hwz := hb.size
 have hA : Below w.heap.size w (((w.alloc (.cells #[.int .i64 17, .int .i64 vk, .int .i64 vn, .int .i64 vs, .string q, .int .i64 vm, .string r, .slice A L.length c] 33)).alloc (.cells #[.pointer (some ⟨b, 0, none⟩)] 86))) := by (repeat' first | (with_reducible first | exact .refl _ _ | assumption | apply balloc | apply Below.drew | apply bset | refine bstep ?_ ‹_› | refine bturn ?_ ‹_› ?_) | go_size)
 have hs1 : (((w.alloc (.cells #[.int .i64 17, .int .i64 vk, .int .i64 vn, .int .i64 vs, .string q, .int .i64 vm, .string r, .slice A L.length c] 33)).alloc (.cells #[.pointer (some ⟨b, 0, none⟩)] 86))).heap.size = w.heap.size + 2 := by simp
 have K1 := Lib.hid ((Blk.new _ _ _).alloc _ : Blk (((w.alloc (.cells #[.int .i64 17, .int .i64 vk, .int .i64 vn, .int .i64 vs, .string q, .int .i64 vm, .string r, .slice A L.length c] 33)).alloc (.cells #[.pointer (some ⟨b, 0, none⟩)] 86))) w.heap.size 33 #[.int .i64 17, .int .i64 vk, .int .i64 vn, .int .i64 vs, .string q, .int .i64 vm, .string r, .slice A L.length c])
 have P1 := Lib.hid (Blk.new' _ _ _ (by simp) : Blk (((w.alloc (.cells #[.int .i64 17, .int .i64 vk, .int .i64 vn, .int .i64 vs, .string q, .int .i64 vm, .string r, .slice A L.length c] 33)).alloc (.cells #[.pointer (some ⟨b, 0, none⟩)] 86))) (w.heap.size + 1) 86 #[.pointer (some ⟨b, 0, none⟩)])
 have B1 := Lib.hid (isb_below hB hA)
 have E1 := Lib.hid (bstep hb hA)
 have Q1 := Lib.hid (Kp.of hA : Kp b w (((w.alloc (.cells #[.int .i64 17, .int .i64 vk, .int .i64 vn, .int .i64 vs, .string q, .int .i64 vm, .string r, .slice A L.length c] 33)).alloc (.cells #[.pointer (some ⟨b, 0, none⟩)] 86))))
 clear hb hB
 go_enter Tryz.func63, Tryz.ntmps63
 go_upto_region 2 with fail
 have hws : (((w.alloc (.cells #[.int .i64 17, .int .i64 vk, .int .i64 vn, .int .i64 vs, .string q, .int .i64 vm, .string r, .slice A L.length c] 33)).alloc (.cells #[.pointer (some ⟨b, 0, none⟩)] 86))).heap.size = w.heap.size + 2 := by simp
 generalize ((w.alloc (.cells #[.int .i64 17, .int .i64 vk, .int .i64 vn, .int .i64 vs, .string q, .int .i64 vm, .string r, .slice A L.length c] 33)).alloc (.cells #[.pointer (some ⟨b, 0, none⟩)] 86)) = w1 at *
 have HWS := Lib.hid hws
 clear hws
 have k1 := K1.out
 have p1 := P1.out
 obtain ⟨hlx, hllx, qx0, qx1, qx2, qx3, qx4, qx5, qx6, qx7, zx0, zx1, zx2, zx3, zx4, zx5, zx6, zx7⟩ := bf8 k1; (try simp at qx0 qx1 qx2 qx3 qx4 qx5 qx6 qx7); have Hk1 := Lib.hid k1; clear k1
 have hlp := p1.lt; have hllp := lts hlp; have qp0 := p1.cell 0; simp at qp0; have zp0 := p1.frozen 0; have Hp1 := Lib.hid p1; clear p1
 have k3 := K1.out
 go_wp2_with fail
 have hb3 : Below w1.heap.size w1 (w1.alloc (.cells #[.string ⟨#[105, 102, 32]⟩, .string ⟨#[32, 116, 104, 101, 110, 32]⟩, .string ⟨#[32, 101, 108, 115, 101, 32]⟩] 9)) := by (repeat' first | (with_reducible first | exact .refl _ _ | assumption | apply balloc | apply Below.drew | apply bset | refine bstep ?_ ‹_› | refine bturn ?_ ‹_› ?_) | go_size)
 have WD : Blk (w1.alloc (.cells #[.string ⟨#[105, 102, 32]⟩, .string ⟨#[32, 116, 104, 101, 110, 32]⟩, .string ⟨#[32, 101, 108, 115, 101, 32]⟩] 9)) w1.heap.size 9 #[.string ⟨#[105, 102, 32]⟩, .string ⟨#[32, 116, 104, 101, 110, 32]⟩, .string ⟨#[32, 101, 108, 115, 101, 32]⟩] := Blk.new _ _ _
 have hwg : w1.heap.size ≠ b := by omega
 have L0 : Hid (o = o ++ ((pcs L).take 0).flatten ∧ o.length ≤ o.length + 0 * (M + 20)) := Lib.hid ⟨by simp, by omega⟩
 have S0 : Hid (IsB w0.heap.size b o (w1.alloc (.cells #[.string ⟨#[105, 102, 32]⟩, .string ⟨#[32, 116, 104, 101, 110, 32]⟩, .string ⟨#[32, 101, 108, 115, 101, 32]⟩] 9)) ∧ Below w0.heap.size w0 (w1.alloc (.cells #[.string ⟨#[105, 102, 32]⟩, .string ⟨#[32, 116, 104, 101, 110, 32]⟩, .string ⟨#[32, 101, 108, 115, 101, 32]⟩] 9)) ∧ Kp b w (w1.alloc (.cells #[.string ⟨#[105, 102, 32]⟩, .string ⟨#[32, 116, 104, 101, 110, 32]⟩, .string ⟨#[32, 101, 108, 115, 101, 32]⟩] 9)) ∧ Blk (w1.alloc (.cells #[.string ⟨#[105, 102, 32]⟩, .string ⟨#[32, 116, 104, 101, 110, 32]⟩, .string ⟨#[32, 101, 108, 115, 101, 32]⟩] 9)) w.heap.size 33 #[.int .i64 17, .int .i64 vk, .int .i64 vn, .int .i64 vs, .string q, .int .i64 vm, .string r, .slice A L.length c] ∧ Blk (w1.alloc (.cells #[.string ⟨#[105, 102, 32]⟩, .string ⟨#[32, 116, 104, 101, 110, 32]⟩, .string ⟨#[32, 101, 108, 115, 101, 32]⟩] 9)) (w.heap.size + 1) 86 #[.pointer (some ⟨b, 0, none⟩)] ∧ Blk (w1.alloc (.cells #[.string ⟨#[105, 102, 32]⟩, .string ⟨#[32, 116, 104, 101, 110, 32]⟩, .string ⟨#[32, 101, 108, 115, 101, 32]⟩] 9)) w1.heap.size 9 #[.string ⟨#[105, 102, 32]⟩, .string ⟨#[32, 116, 104, 101, 110, 32]⟩, .string ⟨#[32, 101, 108, 115, 101, 32]⟩]) := Lib.hid ⟨isb_below B1.out hb3, bstep E1.out hb3, Q1.out.trans (Kp.of hb3), K1.out.step hb3, P1.out.step hb3, WD⟩
 clear k3 WD hb3
 go_loopw [93, 7, 8] (fun i _ _ wr => ∃ (k : Nat) (o2 : Bs), k ≤ 3 ∧ i = .int .i64 (k : Int) ∧ Hid ((o2 = o ++ ((pcs L).take k).flatten ∧ o2.length ≤ o.length + k * (M + 20)) ∧ IsB w0.heap.size b o2 wr ∧ Below w0.heap.size w0 wr ∧ Kp b w wr ∧ Blk wr w.heap.size 33 #[.int .i64 17, .int .i64 vk, .int .i64 vn, .int .i64 vs, .string q, .int .i64 vm, .string r, .slice A L.length c] ∧ Blk wr (w.heap.size + 1) 86 #[.pointer (some ⟨b, 0, none⟩)] ∧ Blk wr w1.heap.size 9 #[.string ⟨#[105, 102, 32]⟩, .string ⟨#[32, 116, 104, 101, 110, 32]⟩, .string ⟨#[32, 101, 108, 115, 101, 32]⟩]) ∧ w1.heap.size ≤ wr.heap.size) (fun i _ _ _ => 3 - (intOf i).toNat)
 case atStart => exact ⟨0, o, by omega, rfl, Lib.hid ⟨L0.out, S0.out⟩, by simp⟩
 case round =>
   clear qx0 qx1 qx2 qx3 qx4 qx5 qx6 qx7 zx0 zx1 zx2 zx3 zx4 zx5 zx6 zx7 hlx hllx qp0 zp0 hlp hllp L0 S0
   obtain ⟨k, o2, hk3, rfl, HQ, hzr⟩ := hrel
   by_cases hlt : k < 3
   · have hki : (k : Int) < 3 := by omega
     have hkL : (k : Int) < (L.length : Int) := by have := HL3.out; omega
     have hkn : IntKind.i64.wrap ((k : Int) + 1) = ((k + 1 : Nat) : Int) := by rw [IntWalk.i64_in _ (by omega)]; omega
     obtain ⟨W, hW⟩ : ∃ W, W3[k]? = some W := ⟨W3[k]'hlt, List.getElem?_eq_getElem hlt⟩
     obtain ⟨y, hy⟩ : ∃ y, L[k]? = some y := ⟨L[k]'(by have := HL3.out; omega), List.getElem?_eq_getElem _⟩
     have hmem := List.mem_of_getElem? hy
     obtain ⟨g, off, ko, kk, kn, ks, kq, km, kr, kB, kl, kc, rfl, hxm, KF⟩ := HK.out.get k y hy
     have HF := Lib.hid KF
     have hpc := pcs_at hy hW
     have hTM := HM.out y hmem
     have hWl := w3_len hW
     have hbl2 := brT_len y.kids (etxt y)
     obtain ⟨T, hT⟩ : ∃ T, etxt y = T := ⟨_, rfl⟩
     have hkl : kl = y.kids.length := by
       obtain ⟨A2, c2, h⟩ := hxm.get
       simp only [Array.mk.injEq, List.cons.injEq, Value.slice.injEq] at h
       exact h.2.2.2.2.2.2.2.1.2.1
     have hbr : brT y.kids T = if kl = 0 then T else 40 :: (T ++ [41]) := by
       unfold brT
       rw [hkl]
       cases y.kids with
       | nil => rfl
       | cons a r => rfl
     have KW2 : Hid (∀ W o, Below w0.heap.size w0 W → IsB w0.heap.size b o W → o.length + T.length ≤ N → Calls Tryz.prog 63 #[.agg #[.int .i64 ko, .int .i64 kk, .int .i64 kn, .int .i64 ks, .string kq, .int .i64 km, .string kr, .slice kB kl kc], .pointer (some ⟨b, 0, none⟩)] W fun e w' => e = .returned (.tuple #[]) ∧ IsB w0.heap.size b (o ++ T) w' ∧ Below w0.heap.size w0 w' ∧ Kp b W w') := Lib.hid fun W o h1 h2 h3 => by
       have := HKW.out y hmem _ b o W hxm h1 h2 (by rw [hT]; exact h3)
       rw [hT] at this
       exact this
     rw [hT] at hpc hTM hbl2
     obtain ⟨Y, hY⟩ : ∃ Y, brT y.kids T = Y := ⟨_, rfl⟩
     rw [hY] at hbr hpc hbl2
     have HY := Lib.hid hbr
     have HO3 : Hid (((o2 ++ W) ++ Y = o ++ ((pcs L).take (k + 1)).flatten ∧ ((o2 ++ W) ++ Y).length ≤ o.length + (k + 1) * (M + 20)) ∧ T.length ≤ M ∧ W.length ≤ 6 ∧ o2.length ≤ o.length + k * (M + 20)) := Lib.hid (by
       refine ⟨⟨?_, ?_⟩, hTM, hWl, HQ.out.1.2⟩
       · rw [take_flat hpc, HQ.out.1.1]
         simp
       · have := HQ.out.1.2
         rw [List.length_append, List.length_append, Nat.succ_mul]
         omega)
     have hkM : k * (M + 20) ≤ 2 * (M + 20) := Nat.mul_le_mul_right _ (by omega)
     have HKM := Lib.hid hkM
     have wk : wr.cell? ⟨w.heap.size + 2, k, none⟩ = some (.string (bs W)) := by
       rw [← HWS.out]
       rw [HQ.out.2.2.2.2.2.2.cell]
       match k, hlt, hW with
       | 0, _, hW => simp [W3] at hW; subst hW; rfl
       | 1, _, hW => simp [W3] at hW; subst hW; rfl
       | 2, _, hW => simp [W3] at hW; subst hW; rfl
     obtain ⟨Wb, hWb⟩ : ∃ z, bs W = z := ⟨_, rfl⟩
     rw [hWb] at wk
     have HWB : Hid (Wb.data.toList = W ∧ Wb.size = W.length) := Lib.hid (by rw [← hWb]; exact ⟨rfl, bs_size W⟩)
     have HK6 := Lib.hid HQ.out.2.2.2.2.1
     have px := HQ.out.2.2.2.2.2.1
     have HP6 := Lib.hid px
     have HW6 := Lib.hid HQ.out.2.2.2.2.2.2
     have HQ6 := Lib.hid (And.intro HQ.out.2.1 (And.intro HQ.out.2.2.1 HQ.out.2.2.2.1))
     clear hW hy hmem KF hpc hTM hWl hbl2 hT hkl hbr hY hxm hWb HQ hkM
     have hlp := px.lt; have hllp := lts hlp; have qp0 := px.cell 0; simp at qp0; have zp0 := px.frozen 0; have Hpx := Lib.hid px; clear px
     go_wp2_with fail
     refine (str_w w0.heap.size b o2 Wb wr HQ6.out.1 (by have := HO3.out.2; have := HLen.out; have := HKM.out; have := HWB.out.2; omega) (by have := HQ6.out.2.1.size; omega)).mono ?_
     rintro e w2 ⟨rfl, h2, hb2, hk2⟩
     rw [HWB.out.1] at h2
     have E2 := Lib.hid (HQ6.out.2.1.trans hb2)
     have Q2 := Lib.hid (HQ6.out.2.2.trans hk2)
     have k2 := hk2.row _ _ _ expr_u8 (by omega) HK6.out
     have p2 := hk2.row _ _ _ ptr_u8 (by omega) HP6.out
     have HK2 := Lib.hid k2
     have HP2 := Lib.hid p2
     have HW2 := Lib.hid (hk2.row _ _ _ str_u8 hwg HW6.out)
     have hz2 := hk2.size
     clear qp0 zp0 hlp hllp wk
     obtain ⟨hlx, hllx, qx0, qx1, qx2, qx3, qx4, qx5, qx6, qx7, zx0, zx1, zx2, zx3, zx4, zx5, zx6, zx7⟩ := bf8 k2; (try simp at qx0 qx1 qx2 qx3 qx4 qx5 qx6 qx7); have Hk2 := Lib.hid k2; clear k2
     have hlp := p2.lt; have hllp := lts hlp; have qp0 := p2.cell 0; simp at qp0; have zp0 := p2.frozen 0; have Hp2 := Lib.hid p2; clear p2
     obtain ⟨y0, y1, y2, y3, y4, y5, y6, y7⟩ := HF.out
     replace y0 := keep1 E2.out y0
     replace y1 := keep1 E2.out y1
     replace y2 := keep1 E2.out y2
     replace y3 := keep1 E2.out y3
     replace y4 := keep1 E2.out y4
     replace y5 := keep1 E2.out y5
     replace y6 := keep1 E2.out y6
     replace y7 := keep1 E2.out y7
     go_wp2_with fail
     refine (part_any ko kk kn ks kq km kr kB kl kc (w.heap.size + 1) b _ T w0 w2 N hN E2.out h2 qp0 (by have := HO3.out.2; have := HLen.out; have := HKM.out; simp; omega) KW2 _ HP2.out ptr_u8 (by omega)).mono ?_
     rintro e w3 ⟨rfl, h3, hb3, hk3⟩
     rw [← HY.out] at h3
     have k4 := Lib.hid (hk3.row _ _ _ expr_u8 (by omega) HK2.out)
     have p4 := Lib.hid (hk3.row _ _ _ ptr_u8 (by omega) HP2.out)
     have w4 := Lib.hid (hk3.row _ _ _ str_u8 hwg HW2.out)
     have Q4 := Lib.hid (Q2.out.trans hk3)
     have hz4 := hk3.size
     clear y0 y1 y2 y3 y4 y5 y6 y7 qx0 qx1 qx2 qx3 qx4 qx5 qx6 qx7 zx0 zx1 zx2 zx3 zx4 zx5 zx6 zx7 hlx hllx qp0 zp0 hlp hllp
     go_wp2_with fail
     go_roundw
     case rel => exact ⟨k + 1, _, by omega, by go_num, Lib.hid ⟨HO3.out.1, h3, hb3, Q4.out, k4.out, p4.out, w4.out⟩, by omega⟩
     case measure => simp [intOf]; omega
   · obtain rfl : k = 3 := by omega
     have ho : o2 = o ++ (pcs L).flatten := by
       rw [HQ.out.1.1, List.take_of_length_le (by rw [HPL.out]; exact Nat.le_refl _)]
     have HO := Lib.hid ho
     clear ho hlt
     go_wp2_with fail
     go_returns
     exact ⟨rfl, by rw [← HO.out]; exact HQ.out.2.1, HQ.out.2.2.1, HQ.out.2.2.2.1⟩
end Go.Proofs.YtapilekangmcoaaGreatDoor
namespace Go.Proofs.YtapilekangmcoaaGreatDoor
open Go.RowKit
theorem vtxt_le {v : Vl} (h : vSound v) : (vtxt v).length ≤ 1000 := by
 have := vtxt_len h
 omega
theorem etxt_cnt {x : Ex} (hx : ES wordB x) : (etxt x).length ≤ 1100 * cnt x := by
 have hb : ∀ (K : List Ex) (T : Bs), (brT K T).length ≤ T.length + 2 := brT_len
 induction hx with
 | val v h h0 =>
   have := vtxt_le h
   simp [etxt, cnt]
   omega
 | name s h =>
   obtain ⟨c, r, h1, _, h2, _⟩ := word_parts h
   simp [etxt, cnt]
   omega
 | neg a h ih =>
   have := hb a.kids (etxt a)
   simp [etxt, cnt]
   omega
 | not a h ih =>
   simp [etxt, cnt, bNot]
   omega
 | bin o a b h4 h15 ha hb2 iha ihb =>
   have e1 := hb a.kids (etxt a)
   have e2 := hb b.kids (etxt b)
   have e3 := signE_len h4 h15
   simp [etxt, cnt]
   omega
 | ife a b c ha hb2 hc iha ihb ihc =>
   have e1 := hb a.kids (etxt a)
   have e2 := hb b.kids (etxt b)
   have e3 := hb c.kids (etxt c)
   simp [etxt, cnt, bIf, bThen, bElse]
   omega
theorem pcs_ife (a b c : Ex) : (pcs [a, b, c]).flatten = etxt (.mk 17 zeroV [] [a, b, c]) := by
 simp [pcs, W3, etxt, bIf, bThen, bElse]
theorem write_all (m : Int) (w0 : World) (hw : OKW m w0) {x : Ex} (hx : ES wordB x) : cnt x ≤ 4096 → ∀ j, j + dep x ≤ 65 → WrC w0 (100000000 + 13600000 * j) x := by
 induction hx with
 | val v h h0 =>
   intro _ j hj cs b o w hxm hb hB hl
   obtain ⟨A, c, rfl, hk⟩ := hxm.kd
   have e : etxt (.mk 1 v [] []) = vtxt v := by simp [etxt]
   rw [e] at hl ⊢
   exact write_val v.k v.n v.s v.m (bs v.t) (bs []) A c b o w0 w (100000000 + 13600000 * j) (by simp only [dep] at hj; omega) hb hB 0 (bs (vtxt v)) (by rw [bs_size]; exact hl) (Lib.hid fun W hW => vtext_any v h m W (hw.step hW))
 | name s h =>
   intro _ j hj cs b o w hxm hb hB hl
   obtain ⟨A, c, rfl, hk⟩ := hxm.kd
   have e : etxt (.mk 2 zeroV s []) = s := by simp [etxt]
   rw [e] at hl ⊢
   exact write_name 0 0 0 0 (bs []) (bs s) A c b o w0 w (100000000 + 13600000 * j) (by simp only [dep] at hj; omega) hb hB 0 (by rw [bs_size]; exact hl)
 | neg a h ih =>
   intro hc j hj cs b o w hxm hb hB hl
   obtain ⟨A, c, rfl, hk⟩ := hxm.kd
   simp only [cnt] at hc
   simp only [dep] at hj
   have e : etxt (.mk 3 zeroV [] [a]) = 45 :: brT a.kids (etxt a) := by simp [etxt]
   rw [e] at hl ⊢
   have hl2 : (etxt a).length ≤ (brT a.kids (etxt a)).length := by unfold brT; split <;> simp <;> omega
   exact write_neg 0 0 0 0 (bs []) (bs []) A c b o w0 w (100000000 + 13600000 * (j + 1)) (by omega) hb hB [a] a rfl hk rfl (ih (by omega) (j + 1) (by omega)) (by simp at hl; omega)
 | not a h ih =>
   intro hc j hj cs b o w hxm hb hB hl
   obtain ⟨A, c, rfl, hk⟩ := hxm.kd
   simp only [cnt] at hc
   simp only [dep] at hj
   have e : etxt (.mk 16 zeroV [] [a]) = bNot ++ 40 :: (etxt a ++ [41]) := by simp [etxt]
   rw [e] at hl ⊢
   exact write_not 0 0 0 0 (bs []) (bs []) A c b o w0 w (100000000 + 13600000 * (j + 1)) (by omega) hb hB [a] a rfl hk rfl (ih (by omega) (j + 1) (by omega)) (by simp [bNot] at hl; omega)
 | bin p a d h4 h15 ha hd iha ihd =>
   intro hc j hj cs b o w hxm hb hB hl
   obtain ⟨A, c, rfl, hk⟩ := hxm.kd
   simp only [cnt] at hc
   simp only [dep] at hj
   have e : etxt (.mk p zeroV [] [a, d]) = brT a.kids (etxt a) ++ 32 :: (signE p ++ 32 :: brT d.kids (etxt d)) := by simp [etxt]
   rw [e] at hl ⊢
   have hla : (etxt a).length ≤ (brT a.kids (etxt a)).length := by unfold brT; split <;> simp <;> omega
   have hld : (etxt d).length ≤ (brT d.kids (etxt d)).length := by unfold brT; split <;> simp <;> omega
   have hm1 : dep a ≤ max (dep a) (dep d) := Nat.le_max_left _ _
   have hm2 : dep d ≤ max (dep a) (dep d) := Nat.le_max_right _ _
   exact write_bin 0 0 0 0 (bs []) (bs []) A c b o w0 w (100000000 + 13600000 * (j + 1)) (by omega) hb hB p h4 h15 [a, d] a d rfl rfl hk rfl (iha (by omega) (j + 1) (by omega)) (ihd (by omega) (j + 1) (by omega)) (by simp at hl; omega)
 | ife a d f ha hd hf iha ihd ihf =>
   intro hc j hj cs b o w hxm hb hB hl
   obtain ⟨A, c, rfl, hk⟩ := hxm.kd
   simp only [cnt] at hc
   simp only [dep] at hj
   have l1 := etxt_cnt ha
   have l2 := etxt_cnt hd
   have l3 := etxt_cnt hf
   have hm1 : dep a ≤ max (dep a) (max (dep d) (dep f)) := Nat.le_max_left _ _
   have hm2 : max (dep d) (dep f) ≤ max (dep a) (max (dep d) (dep f)) := Nat.le_max_right _ _
   have hm3 : dep d ≤ max (dep d) (dep f) := Nat.le_max_left _ _
   have hm4 : dep f ≤ max (dep d) (dep f) := Nat.le_max_right _ _
   rw [← pcs_ife] at hl ⊢
   refine write_ife 0 0 0 0 (bs []) (bs []) A c b o w0 w (100000000 + 13600000 * (j + 1)) (by omega) hb hB [a, d, f] hk rfl (fun y hy => ?_) (1100 * 4096) (fun y hy => ?_) (by omega)
   · simp at hy
     rcases hy with rfl | rfl | rfl
     · exact iha (by omega) (j + 1) (by omega)
     · exact ihd (by omega) (j + 1) (by omega)
     · exact ihf (by omega) (j + 1) (by omega)
   · simp at hy
     rcases hy with rfl | rfl | rfl <;> omega
theorem etext_no (o k n s m : Int) (q r : ByteArray) (A : Option Addr) (l c : Nat) (w : World)
   (KS : Hid (∀ W, Below w.heap.size w W → Calls Tryz.prog 29 #[.agg #[.int .i64 o, .int .i64 k, .int .i64 n, .int .i64 s, .string q, .int .i64 m, .string r, .slice A l c]] W fun e w' => e = .returned (.bool false) ∧ Below W.heap.size W w')) :
   Calls Tryz.prog 35 #[.agg #[.int .i64 o, .int .i64 k, .int .i64 n, .int .i64 s, .string q, .int .i64 m, .string r, .slice A l c]] w fun e w' => e = .returned (.tuple #[.string ⟨#[]⟩, .int .i64 2]) ∧ Below w.heap.size w w' := by
 go_enter Tryz.func35, Tryz.ntmps35
 go_wp2_with fail
 refine (KS.out _ (by (repeat' first | (with_reducible first | exact .refl _ _ | assumption | apply balloc | apply Below.drew | apply bset | refine bstep ?_ ‹_› | refine bturn ?_ ‹_› ?_) | go_size))).mono ?_
 rintro e w1 ⟨rfl, hb1⟩
 go_wp2_with fail
 go_returns
 exact ⟨rfl, by (repeat' first | (with_reducible first | exact .refl _ _ | assumption | apply balloc | apply Below.drew | apply bset | refine bstep ?_ ‹_› | refine bturn ?_ ‹_› ?_) | go_size)⟩
theorem etext_yes (o k n s m : Int) (q r : ByteArray) (A : Option Addr) (l c : Nat) (T : Bs) (hT : T.length ≤ 100000000) (w : World)
   (KS : Hid (∀ W, Below w.heap.size w W → Calls Tryz.prog 29 #[.agg #[.int .i64 o, .int .i64 k, .int .i64 n, .int .i64 s, .string q, .int .i64 m, .string r, .slice A l c]] W fun e w' => e = .returned (.bool true) ∧ Below W.heap.size W w'))
   (KW : Hid (∀ W0 W b, Below w.heap.size w W0 → Below W0.heap.size W0 W → IsB W0.heap.size b [] W → Calls Tryz.prog 63 #[.agg #[.int .i64 o, .int .i64 k, .int .i64 n, .int .i64 s, .string q, .int .i64 m, .string r, .slice A l c], .pointer (some ⟨b, 0, none⟩)] W fun e w' => e = .returned (.tuple #[]) ∧ IsB W0.heap.size b T w' ∧ Below W0.heap.size W0 w' ∧ Kp b W w')) :
   Calls Tryz.prog 35 #[.agg #[.int .i64 o, .int .i64 k, .int .i64 n, .int .i64 s, .string q, .int .i64 m, .string r, .slice A l c]] w fun e w' => e = .returned (if 65536 < T.length then .tuple #[.string ⟨#[]⟩, .int .i64 10] else .tuple #[.string (bs T), .int .i64 0]) ∧ Below w.heap.size w w' := by
 have k0 : Blk (w.alloc (.cells #[.int .i64 o, .int .i64 k, .int .i64 n, .int .i64 s, .string q, .int .i64 m, .string r, .slice A l c] 33)) w.heap.size 33 #[.int .i64 o, .int .i64 k, .int .i64 n, .int .i64 s, .string q, .int .i64 m, .string r, .slice A l c] := Blk.new _ _ _
 obtain ⟨R, hR⟩ : ∃ R : Value, (if 65536 < T.length then .tuple #[.string ⟨#[]⟩, .int .i64 10] else .tuple #[.string (bs T), .int .i64 0]) = R := ⟨_, rfl⟩
 have HR := Lib.hid hR
 rw [hR]
 clear hR
 have HT := Lib.hid hT
 clear hT
 go_enter Tryz.func35, Tryz.ntmps35
 go_wp2_with fail
 refine (KS.out _ (by (repeat' first | (with_reducible first | exact .refl _ _ | assumption | apply balloc | apply Below.drew | apply bset | refine bstep ?_ ‹_› | refine bturn ?_ ‹_› ?_) | go_size))).mono ?_
 rintro e w1 ⟨rfl, hb1⟩
 have k1 := k0.step hb1
 have hb01 : Below w.heap.size w w1 := by (repeat' first | (with_reducible first | exact .refl _ _ | assumption | apply balloc | apply Below.drew | apply bset | refine bstep ?_ ‹_› | refine bturn ?_ ‹_› ?_) | go_size)
 have hz1 := hb01.size
 have B1 := Lib.hid (Lib.fresh_isBuilder 89 5 w1)
 clear k0 hb1
 obtain ⟨hlx, hllx, qx0, qx1, qx2, qx3, qx4, qx5, qx6, qx7, zx0, zx1, zx2, zx3, zx4, zx5, zx6, zx7⟩ := bf8 k1; (try simp at qx0 qx1 qx2 qx3 qx4 qx5 qx6 qx7); have Hk1 := Lib.hid k1; clear k1
 go_wp2_with fail
 refine (KW.out w1 _ _ hb01 (by (repeat' first | (with_reducible first | exact .refl _ _ | assumption | apply balloc | apply Below.drew | apply bset | refine bstep ?_ ‹_› | refine bturn ?_ ‹_› ?_) | go_size)) B1.out).mono ?_
 rintro e w2 ⟨rfl, h2, hb2, hk2⟩
 have hb02 : Below w.heap.size w w2 := bstep hb01 hb2
 have KL := Lib.hid (Tryz.Builder_Len w1.heap.size w1.heap.size (Lib.byteCells T) w2 h2)
 have hz2 := hb2.size
 rw [Lib.byteCells_length] at KL
 clear qx0 qx1 qx2 qx3 qx4 qx5 qx6 qx7 zx0 zx1 zx2 zx3 zx4 zx5 zx6 zx7 hlx hllx
 by_cases hl : 65536 < T.length
 · have hli : (65536 : Int) < (T.length : Int) := by omega
   have HR2 : Hid (R = .tuple #[.string ⟨#[]⟩, .int .i64 10]) := Lib.hid (by rw [← HR.out, if_pos hl])
   clear hl
   go_wp2_with fail
   refine (KL.out).mono ?_
   rintro e w3 ⟨rfl, rfl⟩
   go_wp2_with fail
   go_returns
   exact ⟨by rw [HR2.out]; first | done | rfl, hb02⟩
 · have hli : ¬ (65536 : Int) < (T.length : Int) := by omega
   have HR2 : Hid (R = .tuple #[.string (bs T), .int .i64 0]) := Lib.hid (by rw [← HR.out, if_neg hl])
   clear hl
   have KSt := Lib.hid (Tryz.Builder_String_any w1.heap.size w1.heap.size T w2 h2 hz2)
   go_wp2_with fail
   refine (KL.out).mono ?_
   rintro e w3 ⟨rfl, rfl⟩
   go_wp2_with fail
   refine (KSt.out).mono ?_
   rintro e w4 ⟨rfl, hb4⟩
   go_wp2_with fail
   go_returns
   exact ⟨by rw [HR2.out]; first | done | rfl, hb02.trans (hb4.mono hz1)⟩
/-- What Text answers. -/
theorem etext_any (x : Ex) (cs : Array Value) (m : Int) (w : World) (hw : OKW m w) (hx : XM (fun _ => True) w x cs) (hv : EV x) :
   Calls Tryz.prog 35 #[.agg cs] w fun e w' => e = .returned (.tuple #[.string (bs (textX x).1), .int .i64 (textX x).2]) ∧ Below w.heap.size w w' := by
 obtain ⟨A, c, hcs⟩ := hx.get
 subst hcs
 have KS : Hid (∀ W, Below w.heap.size w W → Calls Tryz.prog 29 #[.agg #[.int .i64 x.op, .int .i64 x.v.k, .int .i64 x.v.n, .int .i64 x.v.s, .string (bs x.v.t), .int .i64 x.v.m, .string (bs x.nm), .slice A x.kids.length c]] W fun e w' => e = .returned (.bool (soundX x)) ∧ Below W.heap.size W w') := Lib.hid fun W hb => sound_any' x _ m W (hw.step hb) (hx.step hb) hv
 unfold textX
 cases hs : soundX x with
 | false =>
   rw [hs] at KS
   rw [if_neg (by decide)]
   exact etext_no _ _ _ _ _ _ _ _ _ _ w KS
 | true =>
   rw [hs] at KS
   rw [if_pos rfl]
   obtain ⟨h1, h2, h3⟩ := (soundX_iff x).1 hs
   have hl := etxt_cnt h1
   refine (etext_yes _ _ _ _ _ _ _ _ _ _ (etxt x) (by omega) w KS (Lib.hid fun W0 W b hb0 hb hB => ?_)).mono ?_
   · have := write_all m W0 (hw.step hb0) h1 h3 0 (by omega) _ b [] W (hx.step hb0) hb hB (by simp; omega)
     simpa using this
   · rintro e w' ⟨rfl, h⟩
     refine ⟨?_, h⟩
     split <;> rfl
end Go.Proofs.YtapilekangmcoaaGreatDoor
