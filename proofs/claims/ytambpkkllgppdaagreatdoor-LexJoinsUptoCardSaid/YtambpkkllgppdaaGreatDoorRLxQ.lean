/- The walks of the reference's one at a text, a date, a name, a sign. The walks of the reference's one at a name, a sign. The reference's one at any place of a text, and its Tokens at any text. The reference reads numbers and days as the program does; the walk of LexReads. -/
import Derived.Test.YtambpkkllgppdaaGreatDoorRLxP
import Derived.Deep.QuietTactic
import Derived.BigQuiet
namespace Go.Proofs.YtambpkkllgppdaaGreatDoor
open Go.RowKit

theorem fig_lit (n : Nat) (b : Bool) (hb : decide (48 ≤ n ∧ n ≤ 57) = b) : Hid (∀ W, Calls Tryz.prog 37 #[.int .u8 (n : Int)] W fun e w' => e = .returned (.bool b) ∧ W = w') := Lib.hid (fun W => figure_any n b hb W)
set_option maxHeartbeats 8000000 in
set_option maxRecDepth 100000 in
theorem rone_str_none (s : ByteArray) (p : Nat) (hp : p < s.size) (hs : s.size ≤ 4000000) (w : World) (hv : (((s[p]'hp).toNat : Nat) : Int) = 34) (HQ : Hid (∀ W, Calls Tryz.prog 39 #[.string s, .int .i64 (p : Int)] W fun e w' => e = .returned (.tuple #[.string ⟨#[]⟩, .int .i64 (-1)]) ∧ W = w')) :
    Calls Tryz.prog 19 #[.string s, .int .i64 (p : Int)] w fun e w' => e = .returned (.tuple #[.agg #[.int .i64 0, .int .i64 (p : Int), .string ⟨#[]⟩, .int .i64 0, .int .i64 0, .int .i64 0], .int .i64 0, .int .i64 5]) ∧ Below w.heap.size w w' := by
  have hb1 : Blk ((w.alloc (.cells #[.int .i64 0, .int .i64 0, .string ⟨#[]⟩, .int .i64 0, .int .i64 0, .int .i64 0] 38)).alloc (.cells #[.int .i64 0, .int .i64 (p : Int), .string ⟨#[]⟩, .int .i64 0, .int .i64 0, .int .i64 0] 38)) w.heap.size 38 #[.int .i64 0, .int .i64 0, .string ⟨#[]⟩, .int .i64 0, .int .i64 0, .int .i64 0] := (Blk.new w _ _).alloc _
  have hb2 : Blk ((w.alloc (.cells #[.int .i64 0, .int .i64 0, .string ⟨#[]⟩, .int .i64 0, .int .i64 0, .int .i64 0] 38)).alloc (.cells #[.int .i64 0, .int .i64 (p : Int), .string ⟨#[]⟩, .int .i64 0, .int .i64 0, .int .i64 0] 38)) (w.heap.size + 1) 38 #[.int .i64 0, .int .i64 (p : Int), .string ⟨#[]⟩, .int .i64 0, .int .i64 0, .int .i64 0] := Blk.new' _ _ _ (by simp)
  have HF := fig_lit 34 false rfl
  go_enter Tryz.func19, Tryz.ntmps19
  go_wp2_with fail
  refine (HF.out _).mono ?_
  rintro _ _ ⟨rfl, rfl⟩
  go_wp2_with fail
  refine (HQ.out _).mono ?_
  rintro _ _ ⟨rfl, rfl⟩
  go_wp2_with (first | (refine wpList_load_blk hb2 rfl _ _ (by rfl) (by rfl) (by (repeat (first | (with_reducible exact hb2) | (with_reducible refine Blk.alloc ?_ _) | (with_reducible refine Blk.drew ?_) | (with_reducible refine Blk.far ?_ (by first | (simp; done) | (simp; omega)) _) | (with_reducible refine Blk.turn ?_ (by with_reducible assumption) (by omega))))) _ Tryz.underlying38 rfl (by kernel_rfl) ?_) | (refine wpList_store_blk hb1 rfl _ _ _ (by rfl) _ (by rfl) (by rfl) (by (repeat (first | (with_reducible exact hb1) | (with_reducible refine Blk.alloc ?_ _) | (with_reducible refine Blk.drew ?_) | (with_reducible refine Blk.far ?_ (by first | (simp; done) | (simp; omega)) _) | (with_reducible refine Blk.turn ?_ (by with_reducible assumption) (by omega))))) (by rfl) (by kernel_rfl) (by simp [Value.oneCell']) ?_; intro wt hb1n ht))
  refine ret_blk3 rfl hb1n rfl Tryz.underlying38 rfl (by kernel_rfl) rfl ?_
  exact ⟨rfl, by (repeat' (first | (with_reducible exact Below.refl _ _) | (with_reducible assumption) | (with_reducible refine balloc ?_ _) | (with_reducible refine Below.drew ?_) | (with_reducible refine bset ?_ ?_ _) | (with_reducible refine bstep ?_ (by with_reducible assumption)) | (with_reducible refine bturn ?_ (by with_reducible assumption) ?_) | go_size))⟩

set_option maxHeartbeats 8000000 in
set_option maxRecDepth 100000 in
theorem rone_str_long (s : ByteArray) (p : Nat) (hp : p < s.size) (hs : s.size ≤ 4000000) (w : World) (hv : (((s[p]'hp).toNat : Nat) : Int) = 34) (x : ByteArray) (st : Int) (hst : 0 ≤ st) (hx : (256 : Int) < (x.size : Int)) (HQ : Hid (∀ W, Calls Tryz.prog 39 #[.string s, .int .i64 (p : Int)] W fun e w' => e = .returned (.tuple #[.string x, .int .i64 st]) ∧ W = w')) :
    Calls Tryz.prog 19 #[.string s, .int .i64 (p : Int)] w fun e w' => e = .returned (.tuple #[.agg #[.int .i64 0, .int .i64 (p : Int), .string ⟨#[]⟩, .int .i64 0, .int .i64 0, .int .i64 0], .int .i64 0, .int .i64 5]) ∧ Below w.heap.size w w' := by
  have hb1 : Blk ((w.alloc (.cells #[.int .i64 0, .int .i64 0, .string ⟨#[]⟩, .int .i64 0, .int .i64 0, .int .i64 0] 38)).alloc (.cells #[.int .i64 0, .int .i64 (p : Int), .string ⟨#[]⟩, .int .i64 0, .int .i64 0, .int .i64 0] 38)) w.heap.size 38 #[.int .i64 0, .int .i64 0, .string ⟨#[]⟩, .int .i64 0, .int .i64 0, .int .i64 0] := (Blk.new w _ _).alloc _
  have hb2 : Blk ((w.alloc (.cells #[.int .i64 0, .int .i64 0, .string ⟨#[]⟩, .int .i64 0, .int .i64 0, .int .i64 0] 38)).alloc (.cells #[.int .i64 0, .int .i64 (p : Int), .string ⟨#[]⟩, .int .i64 0, .int .i64 0, .int .i64 0] 38)) (w.heap.size + 1) 38 #[.int .i64 0, .int .i64 (p : Int), .string ⟨#[]⟩, .int .i64 0, .int .i64 0, .int .i64 0] := Blk.new' _ _ _ (by simp)
  have HF := fig_lit 34 false rfl
  go_enter Tryz.func19, Tryz.ntmps19
  go_wp2_with fail
  refine (HF.out _).mono ?_
  rintro _ _ ⟨rfl, rfl⟩
  go_wp2_with fail
  refine (HQ.out _).mono ?_
  rintro _ _ ⟨rfl, rfl⟩
  go_wp2_with (first | (refine wpList_load_blk hb2 rfl _ _ (by rfl) (by rfl) (by (repeat (first | (with_reducible exact hb2) | (with_reducible refine Blk.alloc ?_ _) | (with_reducible refine Blk.drew ?_) | (with_reducible refine Blk.far ?_ (by first | (simp; done) | (simp; omega)) _) | (with_reducible refine Blk.turn ?_ (by with_reducible assumption) (by omega))))) _ Tryz.underlying38 rfl (by kernel_rfl) ?_) | (refine wpList_store_blk hb1 rfl _ _ _ (by rfl) _ (by rfl) (by rfl) (by (repeat (first | (with_reducible exact hb1) | (with_reducible refine Blk.alloc ?_ _) | (with_reducible refine Blk.drew ?_) | (with_reducible refine Blk.far ?_ (by first | (simp; done) | (simp; omega)) _) | (with_reducible refine Blk.turn ?_ (by with_reducible assumption) (by omega))))) (by rfl) (by kernel_rfl) (by simp [Value.oneCell']) ?_; intro wt hb1n ht))
  refine ret_blk3 rfl hb1n rfl Tryz.underlying38 rfl (by kernel_rfl) rfl ?_
  exact ⟨rfl, by (repeat' (first | (with_reducible exact Below.refl _ _) | (with_reducible assumption) | (with_reducible refine balloc ?_ _) | (with_reducible refine Below.drew ?_) | (with_reducible refine bset ?_ ?_ _) | (with_reducible refine bstep ?_ (by with_reducible assumption)) | (with_reducible refine bturn ?_ (by with_reducible assumption) ?_) | go_size))⟩

set_option maxHeartbeats 8000000 in
set_option maxRecDepth 100000 in
theorem rone_str_bad (s : ByteArray) (p : Nat) (hp : p < s.size) (hs : s.size ≤ 4000000) (w : World) (hv : (((s[p]'hp).toNat : Nat) : Int) = 34) (x : ByteArray) (st : Int) (hst : 0 ≤ st) (hx : ¬ (256 : Int) < (x.size : Int)) (HQ : Hid (∀ W, Calls Tryz.prog 39 #[.string s, .int .i64 (p : Int)] W fun e w' => e = .returned (.tuple #[.string x, .int .i64 st]) ∧ W = w')) (HG : Hid (∀ W, Calls Tryz.prog 40 #[.string x] W fun e w' => e = .returned (.bool false) ∧ W = w')) :
    Calls Tryz.prog 19 #[.string s, .int .i64 (p : Int)] w fun e w' => e = .returned (.tuple #[.agg #[.int .i64 0, .int .i64 (p : Int), .string ⟨#[]⟩, .int .i64 0, .int .i64 0, .int .i64 0], .int .i64 0, .int .i64 5]) ∧ Below w.heap.size w w' := by
  have hb1 : Blk ((w.alloc (.cells #[.int .i64 0, .int .i64 0, .string ⟨#[]⟩, .int .i64 0, .int .i64 0, .int .i64 0] 38)).alloc (.cells #[.int .i64 0, .int .i64 (p : Int), .string ⟨#[]⟩, .int .i64 0, .int .i64 0, .int .i64 0] 38)) w.heap.size 38 #[.int .i64 0, .int .i64 0, .string ⟨#[]⟩, .int .i64 0, .int .i64 0, .int .i64 0] := (Blk.new w _ _).alloc _
  have hb2 : Blk ((w.alloc (.cells #[.int .i64 0, .int .i64 0, .string ⟨#[]⟩, .int .i64 0, .int .i64 0, .int .i64 0] 38)).alloc (.cells #[.int .i64 0, .int .i64 (p : Int), .string ⟨#[]⟩, .int .i64 0, .int .i64 0, .int .i64 0] 38)) (w.heap.size + 1) 38 #[.int .i64 0, .int .i64 (p : Int), .string ⟨#[]⟩, .int .i64 0, .int .i64 0, .int .i64 0] := Blk.new' _ _ _ (by simp)
  have HF := fig_lit 34 false rfl
  go_enter Tryz.func19, Tryz.ntmps19
  go_wp2_with fail
  refine (HF.out _).mono ?_
  rintro _ _ ⟨rfl, rfl⟩
  go_wp2_with fail
  refine (HQ.out _).mono ?_
  rintro _ _ ⟨rfl, rfl⟩
  go_wp2_with fail
  refine (HG.out _).mono ?_
  rintro _ _ ⟨rfl, rfl⟩
  go_wp2_with (first | (refine wpList_load_blk hb2 rfl _ _ (by rfl) (by rfl) (by (repeat (first | (with_reducible exact hb2) | (with_reducible refine Blk.alloc ?_ _) | (with_reducible refine Blk.drew ?_) | (with_reducible refine Blk.far ?_ (by first | (simp; done) | (simp; omega)) _) | (with_reducible refine Blk.turn ?_ (by with_reducible assumption) (by omega))))) _ Tryz.underlying38 rfl (by kernel_rfl) ?_) | (refine wpList_store_blk hb1 rfl _ _ _ (by rfl) _ (by rfl) (by rfl) (by (repeat (first | (with_reducible exact hb1) | (with_reducible refine Blk.alloc ?_ _) | (with_reducible refine Blk.drew ?_) | (with_reducible refine Blk.far ?_ (by first | (simp; done) | (simp; omega)) _) | (with_reducible refine Blk.turn ?_ (by with_reducible assumption) (by omega))))) (by rfl) (by kernel_rfl) (by simp [Value.oneCell']) ?_; intro wt hb1n ht))
  refine ret_blk3 rfl hb1n rfl Tryz.underlying38 rfl (by kernel_rfl) rfl ?_
  exact ⟨rfl, by (repeat' (first | (with_reducible exact Below.refl _ _) | (with_reducible assumption) | (with_reducible refine balloc ?_ _) | (with_reducible refine Below.drew ?_) | (with_reducible refine bset ?_ ?_ _) | (with_reducible refine bstep ?_ (by with_reducible assumption)) | (with_reducible refine bturn ?_ (by with_reducible assumption) ?_) | go_size))⟩

set_option maxHeartbeats 8000000 in
set_option maxRecDepth 100000 in
theorem rone_str_ok (s : ByteArray) (p : Nat) (hp : p < s.size) (hs : s.size ≤ 4000000) (w : World) (hv : (((s[p]'hp).toNat : Nat) : Int) = 34) (x : ByteArray) (st : Int) (hst : 0 ≤ st) (hx : ¬ (256 : Int) < (x.size : Int)) (HQ : Hid (∀ W, Calls Tryz.prog 39 #[.string s, .int .i64 (p : Int)] W fun e w' => e = .returned (.tuple #[.string x, .int .i64 st]) ∧ W = w')) (HG : Hid (∀ W, Calls Tryz.prog 40 #[.string x] W fun e w' => e = .returned (.bool true) ∧ W = w')) :
    Calls Tryz.prog 19 #[.string s, .int .i64 (p : Int)] w fun e w' => e = .returned (.tuple #[.agg #[.int .i64 2, .int .i64 (p : Int), .string x, .int .i64 0, .int .i64 0, .int .i64 0], .int .i64 st, .int .i64 0]) ∧ Below w.heap.size w w' := by
  have hb1 : Blk ((w.alloc (.cells #[.int .i64 0, .int .i64 0, .string ⟨#[]⟩, .int .i64 0, .int .i64 0, .int .i64 0] 38)).alloc (.cells #[.int .i64 0, .int .i64 (p : Int), .string ⟨#[]⟩, .int .i64 0, .int .i64 0, .int .i64 0] 38)) w.heap.size 38 #[.int .i64 0, .int .i64 0, .string ⟨#[]⟩, .int .i64 0, .int .i64 0, .int .i64 0] := (Blk.new w _ _).alloc _
  have hb2 : Blk ((w.alloc (.cells #[.int .i64 0, .int .i64 0, .string ⟨#[]⟩, .int .i64 0, .int .i64 0, .int .i64 0] 38)).alloc (.cells #[.int .i64 0, .int .i64 (p : Int), .string ⟨#[]⟩, .int .i64 0, .int .i64 0, .int .i64 0] 38)) (w.heap.size + 1) 38 #[.int .i64 0, .int .i64 (p : Int), .string ⟨#[]⟩, .int .i64 0, .int .i64 0, .int .i64 0] := Blk.new' _ _ _ (by simp)
  have HF := fig_lit 34 false rfl
  go_enter Tryz.func19, Tryz.ntmps19
  go_wp2_with fail
  refine (HF.out _).mono ?_
  rintro _ _ ⟨rfl, rfl⟩
  go_wp2_with fail
  refine (HQ.out _).mono ?_
  rintro _ _ ⟨rfl, rfl⟩
  go_wp2_with fail
  refine (HG.out _).mono ?_
  rintro _ _ ⟨rfl, rfl⟩
  have hbl : Below w.heap.size w ((w.alloc (.cells #[.int .i64 0, .int .i64 0, .string ⟨#[]⟩, .int .i64 0, .int .i64 0, .int .i64 0] 38)).alloc (.cells #[.int .i64 0, .int .i64 (p : Int), .string ⟨#[]⟩, .int .i64 0, .int .i64 0, .int .i64 0] 38)) := by (repeat' (first | (with_reducible exact Below.refl _ _) | (with_reducible assumption) | (with_reducible refine balloc ?_ _) | (with_reducible refine Below.drew ?_) | (with_reducible refine bset ?_ ?_ _) | (with_reducible refine bstep ?_ (by with_reducible assumption)) | (with_reducible refine bturn ?_ (by with_reducible assumption) ?_) | go_size))
  generalize ((w.alloc (.cells #[.int .i64 0, .int .i64 0, .string ⟨#[]⟩, .int .i64 0, .int .i64 0, .int .i64 0] 38)).alloc (.cells #[.int .i64 0, .int .i64 (p : Int), .string ⟨#[]⟩, .int .i64 0, .int .i64 0, .int .i64 0] 38)) = W0 at hb1 hb2 hbl ⊢
  have hlt := hb2.lt; have hllt := lts hlt; have qt0 := hb2.cell 0; have qt1 := hb2.cell 1; have qt2 := hb2.cell 2; have qt3 := hb2.cell 3; have qt4 := hb2.cell 4; have qt5 := hb2.cell 5; simp at qt0 qt1 qt2 qt3 qt4 qt5; have zt0 := hb2.frozen 0; have zt1 := hb2.frozen 1; have zt2 := hb2.frozen 2; have zt3 := hb2.frozen 3; have zt4 := hb2.frozen 4; have zt5 := hb2.frozen 5; have Hhb2 := Lib.hid hb2; clear hb2
  go_upto_region 18 with fail
  have k2 : Blk (((W0.setCell ⟨w.heap.size + 1, 0, none⟩ (.int .i64 2)).setCell ⟨w.heap.size + 1, 2, none⟩ (.string x))) (w.heap.size + 1) 38 #[.int .i64 2, .int .i64 (p : Int), .string x, .int .i64 0, .int .i64 0, .int .i64 0] := ((Hhb2.out.setL 0 _ _ rfl).setL 2 _ _ rfl)
  have k1' : Blk (((W0.setCell ⟨w.heap.size + 1, 0, none⟩ (.int .i64 2)).setCell ⟨w.heap.size + 1, 2, none⟩ (.string x))) w.heap.size 38 #[.int .i64 0, .int .i64 0, .string ⟨#[]⟩, .int .i64 0, .int .i64 0, .int .i64 0] := ((hb1.far (by simp) _).far (by simp) _)
  clear hlt qt0 qt1 qt2 qt3 qt4 qt5 zt0 zt1 zt2 zt3 zt4 zt5
  go_wp2_with (first | (refine wpList_load_blk k2 rfl _ _ (by rfl) (by rfl) (by (repeat (first | (with_reducible exact k2) | (with_reducible refine Blk.alloc ?_ _) | (with_reducible refine Blk.drew ?_) | (with_reducible refine Blk.far ?_ (by first | (simp; done) | (simp; omega)) _) | (with_reducible refine Blk.turn ?_ (by with_reducible assumption) (by omega))))) _ Tryz.underlying38 rfl (by kernel_rfl) ?_) | (refine wpList_store_blk k1' rfl _ _ _ (by rfl) _ (by rfl) (by rfl) (by (repeat (first | (with_reducible exact k1') | (with_reducible refine Blk.alloc ?_ _) | (with_reducible refine Blk.drew ?_) | (with_reducible refine Blk.far ?_ (by first | (simp; done) | (simp; omega)) _) | (with_reducible refine Blk.turn ?_ (by with_reducible assumption) (by omega))))) (by rfl) (by kernel_rfl) (by simp [Value.oneCell']) ?_; intro wt k1'n ht))
  refine ret_blk3 rfl k1'n rfl Tryz.underlying38 rfl (by kernel_rfl) rfl ?_
  exact ⟨rfl, by (repeat' (first | (with_reducible exact Below.refl _ _) | (with_reducible assumption) | (with_reducible refine balloc ?_ _) | (with_reducible refine Below.drew ?_) | (with_reducible refine bset ?_ ?_ _) | (with_reducible refine bstep ?_ (by with_reducible assumption)) | (with_reducible refine bturn ?_ (by with_reducible assumption) ?_) | go_size))⟩

set_option maxHeartbeats 8000000 in
set_option maxRecDepth 100000 in
theorem rone_date_short (s : ByteArray) (p : Nat) (hp : p < s.size) (hs : s.size ≤ 4000000) (w : World) (hv : (((s[p]'hp).toNat : Nat) : Int) = 64) (p1 : Nat) (w4 : (p : Int) + 1 = (p1 : Int)) (w5 : IntKind.i64.wrap (p1 : Int) = (p1 : Int)) (h1 : (s.size : Int) ≤ (p1 : Int)) :
    Calls Tryz.prog 19 #[.string s, .int .i64 (p : Int)] w fun e w' => e = .returned (.tuple #[.agg #[.int .i64 0, .int .i64 (p : Int), .string ⟨#[]⟩, .int .i64 0, .int .i64 0, .int .i64 0], .int .i64 0, .int .i64 5]) ∧ Below w.heap.size w w' := by
  have hb1 : Blk ((w.alloc (.cells #[.int .i64 0, .int .i64 0, .string ⟨#[]⟩, .int .i64 0, .int .i64 0, .int .i64 0] 38)).alloc (.cells #[.int .i64 0, .int .i64 (p : Int), .string ⟨#[]⟩, .int .i64 0, .int .i64 0, .int .i64 0] 38)) w.heap.size 38 #[.int .i64 0, .int .i64 0, .string ⟨#[]⟩, .int .i64 0, .int .i64 0, .int .i64 0] := (Blk.new w _ _).alloc _
  have hb2 : Blk ((w.alloc (.cells #[.int .i64 0, .int .i64 0, .string ⟨#[]⟩, .int .i64 0, .int .i64 0, .int .i64 0] 38)).alloc (.cells #[.int .i64 0, .int .i64 (p : Int), .string ⟨#[]⟩, .int .i64 0, .int .i64 0, .int .i64 0] 38)) (w.heap.size + 1) 38 #[.int .i64 0, .int .i64 (p : Int), .string ⟨#[]⟩, .int .i64 0, .int .i64 0, .int .i64 0] := Blk.new' _ _ _ (by simp)
  have HF := fig_lit 64 false rfl
  go_enter Tryz.func19, Tryz.ntmps19
  go_wp2_with fail
  refine (HF.out _).mono ?_
  rintro _ _ ⟨rfl, rfl⟩
  go_wp2_with (first | (refine wpList_load_blk hb2 rfl _ _ (by rfl) (by rfl) (by (repeat (first | (with_reducible exact hb2) | (with_reducible refine Blk.alloc ?_ _) | (with_reducible refine Blk.drew ?_) | (with_reducible refine Blk.far ?_ (by first | (simp; done) | (simp; omega)) _) | (with_reducible refine Blk.turn ?_ (by with_reducible assumption) (by omega))))) _ Tryz.underlying38 rfl (by kernel_rfl) ?_) | (refine wpList_store_blk hb1 rfl _ _ _ (by rfl) _ (by rfl) (by rfl) (by (repeat (first | (with_reducible exact hb1) | (with_reducible refine Blk.alloc ?_ _) | (with_reducible refine Blk.drew ?_) | (with_reducible refine Blk.far ?_ (by first | (simp; done) | (simp; omega)) _) | (with_reducible refine Blk.turn ?_ (by with_reducible assumption) (by omega))))) (by rfl) (by kernel_rfl) (by simp [Value.oneCell']) ?_; intro wt hb1n ht))
  refine ret_blk3 rfl hb1n rfl Tryz.underlying38 rfl (by kernel_rfl) rfl ?_
  exact ⟨rfl, by (repeat' (first | (with_reducible exact Below.refl _ _) | (with_reducible assumption) | (with_reducible refine balloc ?_ _) | (with_reducible refine Below.drew ?_) | (with_reducible refine bset ?_ ?_ _) | (with_reducible refine bstep ?_ (by with_reducible assumption)) | (with_reducible refine bturn ?_ (by with_reducible assumption) ?_) | go_size))⟩

set_option maxHeartbeats 8000000 in
set_option maxRecDepth 100000 in
theorem rone_date_other (s : ByteArray) (p : Nat) (hp : p < s.size) (hs : s.size ≤ 4000000) (w : World) (hv : (((s[p]'hp).toNat : Nat) : Int) = 64) (p1 : Nat) (w4 : (p : Int) + 1 = (p1 : Int)) (w5 : IntKind.i64.wrap (p1 : Int) = (p1 : Int)) (h1n : p1 < s.size) (h1 : ¬ (s.size : Int) ≤ (p1 : Int)) (h2 : ((((s[p1]'h1n).toNat : Nat) : Int) != 34) = true) :
    Calls Tryz.prog 19 #[.string s, .int .i64 (p : Int)] w fun e w' => e = .returned (.tuple #[.agg #[.int .i64 0, .int .i64 (p : Int), .string ⟨#[]⟩, .int .i64 0, .int .i64 0, .int .i64 0], .int .i64 0, .int .i64 5]) ∧ Below w.heap.size w w' := by
  have hb1 : Blk ((w.alloc (.cells #[.int .i64 0, .int .i64 0, .string ⟨#[]⟩, .int .i64 0, .int .i64 0, .int .i64 0] 38)).alloc (.cells #[.int .i64 0, .int .i64 (p : Int), .string ⟨#[]⟩, .int .i64 0, .int .i64 0, .int .i64 0] 38)) w.heap.size 38 #[.int .i64 0, .int .i64 0, .string ⟨#[]⟩, .int .i64 0, .int .i64 0, .int .i64 0] := (Blk.new w _ _).alloc _
  have hb2 : Blk ((w.alloc (.cells #[.int .i64 0, .int .i64 0, .string ⟨#[]⟩, .int .i64 0, .int .i64 0, .int .i64 0] 38)).alloc (.cells #[.int .i64 0, .int .i64 (p : Int), .string ⟨#[]⟩, .int .i64 0, .int .i64 0, .int .i64 0] 38)) (w.heap.size + 1) 38 #[.int .i64 0, .int .i64 (p : Int), .string ⟨#[]⟩, .int .i64 0, .int .i64 0, .int .i64 0] := Blk.new' _ _ _ (by simp)
  have HF := fig_lit 64 false rfl
  go_enter Tryz.func19, Tryz.ntmps19
  go_wp2_with fail
  refine (HF.out _).mono ?_
  rintro _ _ ⟨rfl, rfl⟩
  go_wp2_with (first | (refine wpList_load_blk hb2 rfl _ _ (by rfl) (by rfl) (by (repeat (first | (with_reducible exact hb2) | (with_reducible refine Blk.alloc ?_ _) | (with_reducible refine Blk.drew ?_) | (with_reducible refine Blk.far ?_ (by first | (simp; done) | (simp; omega)) _) | (with_reducible refine Blk.turn ?_ (by with_reducible assumption) (by omega))))) _ Tryz.underlying38 rfl (by kernel_rfl) ?_) | (refine wpList_store_blk hb1 rfl _ _ _ (by rfl) _ (by rfl) (by rfl) (by (repeat (first | (with_reducible exact hb1) | (with_reducible refine Blk.alloc ?_ _) | (with_reducible refine Blk.drew ?_) | (with_reducible refine Blk.far ?_ (by first | (simp; done) | (simp; omega)) _) | (with_reducible refine Blk.turn ?_ (by with_reducible assumption) (by omega))))) (by rfl) (by kernel_rfl) (by simp [Value.oneCell']) ?_; intro wt hb1n ht))
  refine ret_blk3 rfl hb1n rfl Tryz.underlying38 rfl (by kernel_rfl) rfl ?_
  exact ⟨rfl, by (repeat' (first | (with_reducible exact Below.refl _ _) | (with_reducible assumption) | (with_reducible refine balloc ?_ _) | (with_reducible refine Below.drew ?_) | (with_reducible refine bset ?_ ?_ _) | (with_reducible refine bstep ?_ (by with_reducible assumption)) | (with_reducible refine bturn ?_ (by with_reducible assumption) ?_) | go_size))⟩

set_option maxHeartbeats 8000000 in
set_option maxRecDepth 100000 in
theorem rone_date_stop (s : ByteArray) (p : Nat) (hp : p < s.size) (hs : s.size ≤ 4000000) (w : World) (hv : (((s[p]'hp).toNat : Nat) : Int) = 64) (p1 : Nat) (w4 : (p : Int) + 1 = (p1 : Int)) (w5 : IntKind.i64.wrap (p1 : Int) = (p1 : Int)) (h1n : p1 < s.size) (h1 : ¬ (s.size : Int) ≤ (p1 : Int)) (h2 : (((s[p1]'h1n).toNat : Nat) : Int) = 34) (x : ByteArray) (st : Int) (d de : Int) (p13 : Int) (w6 : IntKind.i64.wrap ((p : Int) + 13) = p13) (h3 : (st != p13) = true) (HQ : Hid (∀ W, Calls Tryz.prog 39 #[.string s, .int .i64 (p1 : Int)] W fun e w' => e = .returned (.tuple #[.string x, .int .i64 st]) ∧ W = w')) (HD : Hid (∀ W, Calls Tryz.prog 41 #[.string x] W fun e w' => e = .returned (.tuple #[.int .i64 d, .int .i64 de]) ∧ Below W.heap.size W w')) :
    Calls Tryz.prog 19 #[.string s, .int .i64 (p : Int)] w fun e w' => e = .returned (.tuple #[.agg #[.int .i64 0, .int .i64 (p : Int), .string ⟨#[]⟩, .int .i64 0, .int .i64 0, .int .i64 0], .int .i64 0, .int .i64 5]) ∧ Below w.heap.size w w' := by
  have hb1 : Blk ((w.alloc (.cells #[.int .i64 0, .int .i64 0, .string ⟨#[]⟩, .int .i64 0, .int .i64 0, .int .i64 0] 38)).alloc (.cells #[.int .i64 0, .int .i64 (p : Int), .string ⟨#[]⟩, .int .i64 0, .int .i64 0, .int .i64 0] 38)) w.heap.size 38 #[.int .i64 0, .int .i64 0, .string ⟨#[]⟩, .int .i64 0, .int .i64 0, .int .i64 0] := (Blk.new w _ _).alloc _
  have hb2 : Blk ((w.alloc (.cells #[.int .i64 0, .int .i64 0, .string ⟨#[]⟩, .int .i64 0, .int .i64 0, .int .i64 0] 38)).alloc (.cells #[.int .i64 0, .int .i64 (p : Int), .string ⟨#[]⟩, .int .i64 0, .int .i64 0, .int .i64 0] 38)) (w.heap.size + 1) 38 #[.int .i64 0, .int .i64 (p : Int), .string ⟨#[]⟩, .int .i64 0, .int .i64 0, .int .i64 0] := Blk.new' _ _ _ (by simp)
  have HF := fig_lit 64 false rfl
  go_enter Tryz.func19, Tryz.ntmps19
  go_wp2_with fail
  refine (HF.out _).mono ?_
  rintro _ _ ⟨rfl, rfl⟩
  go_wp2_with fail
  refine (HQ.out _).mono ?_
  rintro _ _ ⟨rfl, rfl⟩
  go_wp2_with fail
  refine (HD.out _).mono ?_
  rintro _ w1 ⟨rfl, hw1⟩
  replace hb1 := hb1.step hw1
  replace hb2 := hb2.step hw1
  go_wp2_with (first | (refine wpList_load_blk hb2 rfl _ _ (by rfl) (by rfl) (by (repeat (first | (with_reducible exact hb2) | (with_reducible refine Blk.alloc ?_ _) | (with_reducible refine Blk.drew ?_) | (with_reducible refine Blk.far ?_ (by first | (simp; done) | (simp; omega)) _) | (with_reducible refine Blk.turn ?_ (by with_reducible assumption) (by omega))))) _ Tryz.underlying38 rfl (by kernel_rfl) ?_) | (refine wpList_store_blk hb1 rfl _ _ _ (by rfl) _ (by rfl) (by rfl) (by (repeat (first | (with_reducible exact hb1) | (with_reducible refine Blk.alloc ?_ _) | (with_reducible refine Blk.drew ?_) | (with_reducible refine Blk.far ?_ (by first | (simp; done) | (simp; omega)) _) | (with_reducible refine Blk.turn ?_ (by with_reducible assumption) (by omega))))) (by rfl) (by kernel_rfl) (by simp [Value.oneCell']) ?_; intro wt hb1n ht))
  refine ret_blk3 rfl hb1n rfl Tryz.underlying38 rfl (by kernel_rfl) rfl ?_
  exact ⟨rfl, by (repeat' (first | (with_reducible exact Below.refl _ _) | (with_reducible assumption) | (with_reducible refine balloc ?_ _) | (with_reducible refine Below.drew ?_) | (with_reducible refine bset ?_ ?_ _) | (with_reducible refine bstep ?_ (by with_reducible assumption)) | (with_reducible refine bturn ?_ (by with_reducible assumption) ?_) | go_size))⟩

set_option maxHeartbeats 8000000 in
set_option maxRecDepth 100000 in
theorem rone_date_bad (s : ByteArray) (p : Nat) (hp : p < s.size) (hs : s.size ≤ 4000000) (w : World) (hv : (((s[p]'hp).toNat : Nat) : Int) = 64) (p1 : Nat) (w4 : (p : Int) + 1 = (p1 : Int)) (w5 : IntKind.i64.wrap (p1 : Int) = (p1 : Int)) (h1n : p1 < s.size) (h1 : ¬ (s.size : Int) ≤ (p1 : Int)) (h2 : (((s[p1]'h1n).toNat : Nat) : Int) = 34) (x : ByteArray) (st : Int) (d de : Int) (p13 : Int) (w6 : IntKind.i64.wrap ((p : Int) + 13) = p13) (h3 : (st != p13) = false) (h4 : (de != 0) = true) (HQ : Hid (∀ W, Calls Tryz.prog 39 #[.string s, .int .i64 (p1 : Int)] W fun e w' => e = .returned (.tuple #[.string x, .int .i64 st]) ∧ W = w')) (HD : Hid (∀ W, Calls Tryz.prog 41 #[.string x] W fun e w' => e = .returned (.tuple #[.int .i64 d, .int .i64 de]) ∧ Below W.heap.size W w')) :
    Calls Tryz.prog 19 #[.string s, .int .i64 (p : Int)] w fun e w' => e = .returned (.tuple #[.agg #[.int .i64 0, .int .i64 (p : Int), .string ⟨#[]⟩, .int .i64 0, .int .i64 0, .int .i64 0], .int .i64 0, .int .i64 5]) ∧ Below w.heap.size w w' := by
  have hb1 : Blk ((w.alloc (.cells #[.int .i64 0, .int .i64 0, .string ⟨#[]⟩, .int .i64 0, .int .i64 0, .int .i64 0] 38)).alloc (.cells #[.int .i64 0, .int .i64 (p : Int), .string ⟨#[]⟩, .int .i64 0, .int .i64 0, .int .i64 0] 38)) w.heap.size 38 #[.int .i64 0, .int .i64 0, .string ⟨#[]⟩, .int .i64 0, .int .i64 0, .int .i64 0] := (Blk.new w _ _).alloc _
  have hb2 : Blk ((w.alloc (.cells #[.int .i64 0, .int .i64 0, .string ⟨#[]⟩, .int .i64 0, .int .i64 0, .int .i64 0] 38)).alloc (.cells #[.int .i64 0, .int .i64 (p : Int), .string ⟨#[]⟩, .int .i64 0, .int .i64 0, .int .i64 0] 38)) (w.heap.size + 1) 38 #[.int .i64 0, .int .i64 (p : Int), .string ⟨#[]⟩, .int .i64 0, .int .i64 0, .int .i64 0] := Blk.new' _ _ _ (by simp)
  have HF := fig_lit 64 false rfl
  go_enter Tryz.func19, Tryz.ntmps19
  go_wp2_with fail
  refine (HF.out _).mono ?_
  rintro _ _ ⟨rfl, rfl⟩
  go_wp2_with fail
  refine (HQ.out _).mono ?_
  rintro _ _ ⟨rfl, rfl⟩
  go_wp2_with fail
  refine (HD.out _).mono ?_
  rintro _ w1 ⟨rfl, hw1⟩
  replace hb1 := hb1.step hw1
  replace hb2 := hb2.step hw1
  go_wp2_with (first | (refine wpList_load_blk hb2 rfl _ _ (by rfl) (by rfl) (by (repeat (first | (with_reducible exact hb2) | (with_reducible refine Blk.alloc ?_ _) | (with_reducible refine Blk.drew ?_) | (with_reducible refine Blk.far ?_ (by first | (simp; done) | (simp; omega)) _) | (with_reducible refine Blk.turn ?_ (by with_reducible assumption) (by omega))))) _ Tryz.underlying38 rfl (by kernel_rfl) ?_) | (refine wpList_store_blk hb1 rfl _ _ _ (by rfl) _ (by rfl) (by rfl) (by (repeat (first | (with_reducible exact hb1) | (with_reducible refine Blk.alloc ?_ _) | (with_reducible refine Blk.drew ?_) | (with_reducible refine Blk.far ?_ (by first | (simp; done) | (simp; omega)) _) | (with_reducible refine Blk.turn ?_ (by with_reducible assumption) (by omega))))) (by rfl) (by kernel_rfl) (by simp [Value.oneCell']) ?_; intro wt hb1n ht))
  refine ret_blk3 rfl hb1n rfl Tryz.underlying38 rfl (by kernel_rfl) rfl ?_
  exact ⟨rfl, by (repeat' (first | (with_reducible exact Below.refl _ _) | (with_reducible assumption) | (with_reducible refine balloc ?_ _) | (with_reducible refine Below.drew ?_) | (with_reducible refine bset ?_ ?_ _) | (with_reducible refine bstep ?_ (by with_reducible assumption)) | (with_reducible refine bturn ?_ (by with_reducible assumption) ?_) | go_size))⟩

set_option maxHeartbeats 8000000 in
set_option maxRecDepth 100000 in
theorem rone_date_ok (s : ByteArray) (p : Nat) (hp : p < s.size) (hs : s.size ≤ 4000000) (w : World) (hv : (((s[p]'hp).toNat : Nat) : Int) = 64) (p1 : Nat) (w4 : (p : Int) + 1 = (p1 : Int)) (w5 : IntKind.i64.wrap (p1 : Int) = (p1 : Int)) (h1n : p1 < s.size) (h1 : ¬ (s.size : Int) ≤ (p1 : Int)) (h2 : (((s[p1]'h1n).toNat : Nat) : Int) = 34) (x : ByteArray) (st : Int) (d : Int) (p13 : Int) (w6 : IntKind.i64.wrap ((p : Int) + 13) = p13) (h3 : (st != p13) = false) (HQ : Hid (∀ W, Calls Tryz.prog 39 #[.string s, .int .i64 (p1 : Int)] W fun e w' => e = .returned (.tuple #[.string x, .int .i64 st]) ∧ W = w')) (HD : Hid (∀ W, Calls Tryz.prog 41 #[.string x] W fun e w' => e = .returned (.tuple #[.int .i64 d, .int .i64 0]) ∧ Below W.heap.size W w')) :
    Calls Tryz.prog 19 #[.string s, .int .i64 (p : Int)] w fun e w' => e = .returned (.tuple #[.agg #[.int .i64 3, .int .i64 (p : Int), .string ⟨#[]⟩, .int .i64 0, .int .i64 0, .int .i64 d], .int .i64 st, .int .i64 0]) ∧ Below w.heap.size w w' := by
  have hb1 : Blk ((w.alloc (.cells #[.int .i64 0, .int .i64 0, .string ⟨#[]⟩, .int .i64 0, .int .i64 0, .int .i64 0] 38)).alloc (.cells #[.int .i64 0, .int .i64 (p : Int), .string ⟨#[]⟩, .int .i64 0, .int .i64 0, .int .i64 0] 38)) w.heap.size 38 #[.int .i64 0, .int .i64 0, .string ⟨#[]⟩, .int .i64 0, .int .i64 0, .int .i64 0] := (Blk.new w _ _).alloc _
  have hb2 : Blk ((w.alloc (.cells #[.int .i64 0, .int .i64 0, .string ⟨#[]⟩, .int .i64 0, .int .i64 0, .int .i64 0] 38)).alloc (.cells #[.int .i64 0, .int .i64 (p : Int), .string ⟨#[]⟩, .int .i64 0, .int .i64 0, .int .i64 0] 38)) (w.heap.size + 1) 38 #[.int .i64 0, .int .i64 (p : Int), .string ⟨#[]⟩, .int .i64 0, .int .i64 0, .int .i64 0] := Blk.new' _ _ _ (by simp)
  have HF := fig_lit 64 false rfl
  go_enter Tryz.func19, Tryz.ntmps19
  go_wp2_with fail
  refine (HF.out _).mono ?_
  rintro _ _ ⟨rfl, rfl⟩
  go_wp2_with fail
  refine (HQ.out _).mono ?_
  rintro _ _ ⟨rfl, rfl⟩
  go_wp2_with fail
  refine (HD.out _).mono ?_
  rintro _ w1 ⟨rfl, hw1⟩
  replace hb1 := hb1.step hw1
  replace hb2 := hb2.step hw1
  have hlt := hb2.lt; have hllt := lts hlt; have qt0 := hb2.cell 0; have qt1 := hb2.cell 1; have qt2 := hb2.cell 2; have qt3 := hb2.cell 3; have qt4 := hb2.cell 4; have qt5 := hb2.cell 5; simp at qt0 qt1 qt2 qt3 qt4 qt5; have zt0 := hb2.frozen 0; have zt1 := hb2.frozen 1; have zt2 := hb2.frozen 2; have zt3 := hb2.frozen 3; have zt4 := hb2.frozen 4; have zt5 := hb2.frozen 5; have Hhb2 := Lib.hid hb2; clear hb2
  go_upto_region 27 with fail
  have k2 : Blk (((w1.setCell ⟨w.heap.size + 1, 0, none⟩ (.int .i64 3)).setCell ⟨w.heap.size + 1, 5, none⟩ (.int .i64 d))) (w.heap.size + 1) 38 #[.int .i64 3, .int .i64 (p : Int), .string ⟨#[]⟩, .int .i64 0, .int .i64 0, .int .i64 d] := ((Hhb2.out.setL 0 _ _ rfl).setL 5 _ _ rfl)
  have k1' : Blk (((w1.setCell ⟨w.heap.size + 1, 0, none⟩ (.int .i64 3)).setCell ⟨w.heap.size + 1, 5, none⟩ (.int .i64 d))) w.heap.size 38 #[.int .i64 0, .int .i64 0, .string ⟨#[]⟩, .int .i64 0, .int .i64 0, .int .i64 0] := ((hb1.far (by simp) _).far (by simp) _)
  clear hlt qt0 qt1 qt2 qt3 qt4 qt5 zt0 zt1 zt2 zt3 zt4 zt5
  go_wp2_with (first | (refine wpList_load_blk k2 rfl _ _ (by rfl) (by rfl) (by (repeat (first | (with_reducible exact k2) | (with_reducible refine Blk.alloc ?_ _) | (with_reducible refine Blk.drew ?_) | (with_reducible refine Blk.far ?_ (by first | (simp; done) | (simp; omega)) _) | (with_reducible refine Blk.turn ?_ (by with_reducible assumption) (by omega))))) _ Tryz.underlying38 rfl (by kernel_rfl) ?_) | (refine wpList_store_blk k1' rfl _ _ _ (by rfl) _ (by rfl) (by rfl) (by (repeat (first | (with_reducible exact k1') | (with_reducible refine Blk.alloc ?_ _) | (with_reducible refine Blk.drew ?_) | (with_reducible refine Blk.far ?_ (by first | (simp; done) | (simp; omega)) _) | (with_reducible refine Blk.turn ?_ (by with_reducible assumption) (by omega))))) (by rfl) (by kernel_rfl) (by simp [Value.oneCell']) ?_; intro wt k1'n ht))
  refine ret_blk3 rfl k1'n rfl Tryz.underlying38 rfl (by kernel_rfl) rfl ?_
  exact ⟨rfl, by (repeat' (first | (with_reducible exact Below.refl _ _) | (with_reducible assumption) | (with_reducible refine balloc ?_ _) | (with_reducible refine Below.drew ?_) | (with_reducible refine bset ?_ ?_ _) | (with_reducible refine bstep ?_ (by with_reducible assumption)) | (with_reducible refine bturn ?_ (by with_reducible assumption) ?_) | go_size))⟩

end Go.Proofs.YtambpkkllgppdaaGreatDoor

namespace Go.Proofs.YtambpkkllgppdaaGreatDoor
open Go.RowKit

set_option maxHeartbeats 8000000 in
set_option maxRecDepth 100000 in
theorem rone_name_long (s : ByteArray) (p : Nat) (hp : p < s.size) (hs : s.size ≤ 4000000) (w : World) (hf : decide (48 ≤ (s[p]'hp).toNat ∧ (s[p]'hp).toNat ≤ 57) = false) (c34 : ((((s[p]'hp).toNat : Nat) : Int) == 34) = false) (c64 : ((((s[p]'hp).toNat : Nat) : Int) == 64) = false) (p1 : Nat) (hp1 : p1 ≤ s.size) (hpp : p ≤ p1) (w4 : (p : Int) + 1 = (p1 : Int)) (w5 : IntKind.i64.wrap (p1 : Int) = (p1 : Int)) (HN : Hid (∀ W, Calls Tryz.prog 23 #[.string (s.extract p p1)] W fun e w' => e = .returned (.bool true) ∧ W = w')) (m n : Nat) (hm : p + runS (lets ++ figs) (s.data.toList.drop p) = m) (hn : (m : Int) - (p : Int) = (n : Int)) (hnw : IntKind.i64.wrap (n : Int) = (n : Int)) (HX : Hid (∀ (k k1 : Nat) (hk : k < s.size) (_ : k + 1 = k1) (b : Bool) (_ : (lets ++ figs).contains (s[k]'hk) = b) W, Calls Tryz.prog 23 #[.string (⟨#[120]⟩ ++ s.extract k k1)] W fun e w' => e = .returned (.bool b) ∧ W = w')) (h32 : (32 : Int) < (n : Int)) :
    Calls Tryz.prog 19 #[.string s, .int .i64 (p : Int)] w fun e w' => e = .returned (.tuple #[.agg #[.int .i64 0, .int .i64 (p : Int), .string ⟨#[]⟩, .int .i64 0, .int .i64 0, .int .i64 0], .int .i64 0, .int .i64 5]) ∧ Below w.heap.size w w' := by
  have hb1 : Blk ((w.alloc (.cells #[.int .i64 0, .int .i64 0, .string ⟨#[]⟩, .int .i64 0, .int .i64 0, .int .i64 0] 38)).alloc (.cells #[.int .i64 0, .int .i64 (p : Int), .string ⟨#[]⟩, .int .i64 0, .int .i64 0, .int .i64 0] 38)) w.heap.size 38 #[.int .i64 0, .int .i64 0, .string ⟨#[]⟩, .int .i64 0, .int .i64 0, .int .i64 0] := (Blk.new w _ _).alloc _
  have hb2 : Blk ((w.alloc (.cells #[.int .i64 0, .int .i64 0, .string ⟨#[]⟩, .int .i64 0, .int .i64 0, .int .i64 0] 38)).alloc (.cells #[.int .i64 0, .int .i64 (p : Int), .string ⟨#[]⟩, .int .i64 0, .int .i64 0, .int .i64 0] 38)) (w.heap.size + 1) 38 #[.int .i64 0, .int .i64 (p : Int), .string ⟨#[]⟩, .int .i64 0, .int .i64 0, .int .i64 0] := Blk.new' _ _ _ (by simp)
  have HF := fig_lit (s[p]'hp).toNat false hf
  go_enter Tryz.func19, Tryz.ntmps19
  have HM := Lib.hid hm
  clear hm
  go_wp2_with fail
  refine (HF.out _).mono ?_
  rintro _ _ ⟨rfl, rfl⟩
  go_wp2_with fail
  refine (HN.out _).mono ?_
  rintro _ _ ⟨rfl, rfl⟩
  go_wp2_with fail
  go_loop [8] (fun i => ∃ k : Nat, p ≤ k ∧ k ≤ s.size ∧ i = .int .i64 (k : Int) ∧ Hid (k + runS (lets ++ figs) (s.data.toList.drop k) = m)) (fun i => s.size - (intOf i).toNat)
  case atStart => exact ⟨p, Nat.le_refl _, by omega, rfl, HM⟩
  case round =>
    obtain ⟨k, hpk, hk, rfl, HK⟩ := hrel
    by_cases hlt : k < s.size
    · have hst := HK.out
      rw [runS_at (lets ++ figs) s k hlt] at hst
      obtain ⟨k1, hk1⟩ : ∃ k1, k + 1 = k1 := ⟨_, rfl⟩
      have v4 : (k : Int) + 1 = (k1 : Int) := by omega
      have v5 : IntKind.i64.wrap (k1 : Int) = (k1 : Int) := IntWalk.i64_in _ (by omega)
      have v6 : (k1 : Int) ≤ (s.size : Int) := by omega
      have hkk : k ≤ k1 := by omega
      have hk1s : k1 ≤ s.size := by omega
      have hes : 1 + (s.extract k k1).size ≤ 9223372036854775807 := by rw [ByteArray.size_extract]; omega
      cases hf4 : (lets ++ figs).contains (s[k]'hlt) with
      | true =>
        rw [hf4, if_pos rfl] at hst
        rw [hk1] at hst
        have HK2 : Hid (k1 + runS (lets ++ figs) (s.data.toList.drop k1) = m) := Lib.hid (by omega)
        have HQ : Hid (p ≤ k1 ∧ k1 ≤ s.size ∧ k < k1) := Lib.hid ⟨by omega, by omega, by omega⟩
        have HX2 := Lib.hid (HX.out k k1 hlt hk1 true hf4)
        clear hst hf4 hk1
        obtain ⟨e, he⟩ : ∃ e, s.extract k k1 = e := ⟨_, rfl⟩
        rw [he] at HX2 hes
        go_wp2_with fail
        refine (HX2.out _).mono ?_
        rintro _ _ ⟨rfl, rfl⟩
        go_wp2_with fail
        go_round
        case rel => exact ⟨k1, HQ.out.1, HQ.out.2.1, by go_num, HK2⟩
        case measure => have := HQ.out; simp [intOf]; omega
      | false =>
        rw [hf4, if_neg (by simp), Nat.add_zero] at hst
        have HX2 := Lib.hid (HX.out k k1 hlt hk1 false hf4)
        subst hst
        clear hf4 hk1
        obtain ⟨e, he⟩ : ∃ e, s.extract k k1 = e := ⟨_, rfl⟩
        rw [he] at HX2 hes
        go_wp2_with fail
        refine (HX2.out _).mono ?_
        rintro _ _ ⟨rfl, rfl⟩
        clear he hes HX2 HM
        go_wp2_with (first | (refine wpList_load_blk hb2 rfl _ _ (by rfl) (by rfl) (by (repeat (first | (with_reducible exact hb2) | (with_reducible refine Blk.alloc ?_ _) | (with_reducible refine Blk.drew ?_) | (with_reducible refine Blk.far ?_ (by first | (simp; done) | (simp; omega)) _) | (with_reducible refine Blk.turn ?_ (by with_reducible assumption) (by omega))))) _ Tryz.underlying38 rfl (by kernel_rfl) ?_) | (refine wpList_store_blk hb1 rfl _ _ _ (by rfl) _ (by rfl) (by rfl) (by (repeat (first | (with_reducible exact hb1) | (with_reducible refine Blk.alloc ?_ _) | (with_reducible refine Blk.drew ?_) | (with_reducible refine Blk.far ?_ (by first | (simp; done) | (simp; omega)) _) | (with_reducible refine Blk.turn ?_ (by with_reducible assumption) (by omega))))) (by rfl) (by kernel_rfl) (by simp [Value.oneCell']) ?_; intro wt hb1n ht))
        refine ret_blk3 rfl hb1n rfl Tryz.underlying38 rfl (by kernel_rfl) rfl ?_
        exact ⟨rfl, by (repeat' (first | (with_reducible exact Below.refl _ _) | (with_reducible assumption) | (with_reducible refine balloc ?_ _) | (with_reducible refine Below.drew ?_) | (with_reducible refine bset ?_ ?_ _) | (with_reducible refine bstep ?_ (by with_reducible assumption)) | (with_reducible refine bturn ?_ (by with_reducible assumption) ?_) | go_size))⟩
    · have hst := HK.out
      rw [runS_end (lets ++ figs) s k hlt, Nat.add_zero] at hst
      subst hst
      clear HM
      go_wp2_with (first | (refine wpList_load_blk hb2 rfl _ _ (by rfl) (by rfl) (by (repeat (first | (with_reducible exact hb2) | (with_reducible refine Blk.alloc ?_ _) | (with_reducible refine Blk.drew ?_) | (with_reducible refine Blk.far ?_ (by first | (simp; done) | (simp; omega)) _) | (with_reducible refine Blk.turn ?_ (by with_reducible assumption) (by omega))))) _ Tryz.underlying38 rfl (by kernel_rfl) ?_) | (refine wpList_store_blk hb1 rfl _ _ _ (by rfl) _ (by rfl) (by rfl) (by (repeat (first | (with_reducible exact hb1) | (with_reducible refine Blk.alloc ?_ _) | (with_reducible refine Blk.drew ?_) | (with_reducible refine Blk.far ?_ (by first | (simp; done) | (simp; omega)) _) | (with_reducible refine Blk.turn ?_ (by with_reducible assumption) (by omega))))) (by rfl) (by kernel_rfl) (by simp [Value.oneCell']) ?_; intro wt hb1n ht))
      refine ret_blk3 rfl hb1n rfl Tryz.underlying38 rfl (by kernel_rfl) rfl ?_
      exact ⟨rfl, by (repeat' (first | (with_reducible exact Below.refl _ _) | (with_reducible assumption) | (with_reducible refine balloc ?_ _) | (with_reducible refine Below.drew ?_) | (with_reducible refine bset ?_ ?_ _) | (with_reducible refine bstep ?_ (by with_reducible assumption)) | (with_reducible refine bturn ?_ (by with_reducible assumption) ?_) | go_size))⟩

set_option maxHeartbeats 8000000 in
set_option maxRecDepth 100000 in
theorem rone_name_ok (s : ByteArray) (p : Nat) (hp : p < s.size) (hs : s.size ≤ 4000000) (w : World) (hf : decide (48 ≤ (s[p]'hp).toNat ∧ (s[p]'hp).toNat ≤ 57) = false) (c34 : ((((s[p]'hp).toNat : Nat) : Int) == 34) = false) (c64 : ((((s[p]'hp).toNat : Nat) : Int) == 64) = false) (p1 : Nat) (hp1 : p1 ≤ s.size) (hpp : p ≤ p1) (w4 : (p : Int) + 1 = (p1 : Int)) (w5 : IntKind.i64.wrap (p1 : Int) = (p1 : Int)) (HN : Hid (∀ W, Calls Tryz.prog 23 #[.string (s.extract p p1)] W fun e w' => e = .returned (.bool true) ∧ W = w')) (m n : Nat) (hm : p + runS (lets ++ figs) (s.data.toList.drop p) = m) (hn : (m : Int) - (p : Int) = (n : Int)) (hnw : IntKind.i64.wrap (n : Int) = (n : Int)) (HX : Hid (∀ (k k1 : Nat) (hk : k < s.size) (_ : k + 1 = k1) (b : Bool) (_ : (lets ++ figs).contains (s[k]'hk) = b) W, Calls Tryz.prog 23 #[.string (⟨#[120]⟩ ++ s.extract k k1)] W fun e w' => e = .returned (.bool b) ∧ W = w')) (h32 : ¬ (32 : Int) < (n : Int)) :
    Calls Tryz.prog 19 #[.string s, .int .i64 (p : Int)] w fun e w' => e = .returned (.tuple #[.agg #[.int .i64 4, .int .i64 (p : Int), .string (s.extract p m), .int .i64 0, .int .i64 0, .int .i64 0], .int .i64 (m : Int), .int .i64 0]) ∧ Below w.heap.size w w' := by
  have hb1 : Blk ((w.alloc (.cells #[.int .i64 0, .int .i64 0, .string ⟨#[]⟩, .int .i64 0, .int .i64 0, .int .i64 0] 38)).alloc (.cells #[.int .i64 0, .int .i64 (p : Int), .string ⟨#[]⟩, .int .i64 0, .int .i64 0, .int .i64 0] 38)) w.heap.size 38 #[.int .i64 0, .int .i64 0, .string ⟨#[]⟩, .int .i64 0, .int .i64 0, .int .i64 0] := (Blk.new w _ _).alloc _
  have hb2 : Blk ((w.alloc (.cells #[.int .i64 0, .int .i64 0, .string ⟨#[]⟩, .int .i64 0, .int .i64 0, .int .i64 0] 38)).alloc (.cells #[.int .i64 0, .int .i64 (p : Int), .string ⟨#[]⟩, .int .i64 0, .int .i64 0, .int .i64 0] 38)) (w.heap.size + 1) 38 #[.int .i64 0, .int .i64 (p : Int), .string ⟨#[]⟩, .int .i64 0, .int .i64 0, .int .i64 0] := Blk.new' _ _ _ (by simp)
  have HF := fig_lit (s[p]'hp).toNat false hf
  go_enter Tryz.func19, Tryz.ntmps19
  have HM := Lib.hid hm
  clear hm
  go_wp2_with fail
  refine (HF.out _).mono ?_
  rintro _ _ ⟨rfl, rfl⟩
  go_wp2_with fail
  refine (HN.out _).mono ?_
  rintro _ _ ⟨rfl, rfl⟩
  go_wp2_with fail
  go_loop [8] (fun i => ∃ k : Nat, p ≤ k ∧ k ≤ s.size ∧ i = .int .i64 (k : Int) ∧ Hid (k + runS (lets ++ figs) (s.data.toList.drop k) = m)) (fun i => s.size - (intOf i).toNat)
  case atStart => exact ⟨p, Nat.le_refl _, by omega, rfl, HM⟩
  case round =>
    obtain ⟨k, hpk, hk, rfl, HK⟩ := hrel
    by_cases hlt : k < s.size
    · have hst := HK.out
      rw [runS_at (lets ++ figs) s k hlt] at hst
      obtain ⟨k1, hk1⟩ : ∃ k1, k + 1 = k1 := ⟨_, rfl⟩
      have v4 : (k : Int) + 1 = (k1 : Int) := by omega
      have v5 : IntKind.i64.wrap (k1 : Int) = (k1 : Int) := IntWalk.i64_in _ (by omega)
      have v6 : (k1 : Int) ≤ (s.size : Int) := by omega
      have hkk : k ≤ k1 := by omega
      have hk1s : k1 ≤ s.size := by omega
      have hes : 1 + (s.extract k k1).size ≤ 9223372036854775807 := by rw [ByteArray.size_extract]; omega
      cases hf4 : (lets ++ figs).contains (s[k]'hlt) with
      | true =>
        rw [hf4, if_pos rfl] at hst
        rw [hk1] at hst
        have HK2 : Hid (k1 + runS (lets ++ figs) (s.data.toList.drop k1) = m) := Lib.hid (by omega)
        have HQ : Hid (p ≤ k1 ∧ k1 ≤ s.size ∧ k < k1) := Lib.hid ⟨by omega, by omega, by omega⟩
        have HX2 := Lib.hid (HX.out k k1 hlt hk1 true hf4)
        clear hst hf4 hk1
        obtain ⟨e, he⟩ : ∃ e, s.extract k k1 = e := ⟨_, rfl⟩
        rw [he] at HX2 hes
        go_wp2_with fail
        refine (HX2.out _).mono ?_
        rintro _ _ ⟨rfl, rfl⟩
        go_wp2_with fail
        go_round
        case rel => exact ⟨k1, HQ.out.1, HQ.out.2.1, by go_num, HK2⟩
        case measure => have := HQ.out; simp [intOf]; omega
      | false =>
        rw [hf4, if_neg (by simp), Nat.add_zero] at hst
        have HX2 := Lib.hid (HX.out k k1 hlt hk1 false hf4)
        subst hst
        clear hf4 hk1
        obtain ⟨e, he⟩ : ∃ e, s.extract k k1 = e := ⟨_, rfl⟩
        rw [he] at HX2 hes
        go_wp2_with fail
        refine (HX2.out _).mono ?_
        rintro _ _ ⟨rfl, rfl⟩
        clear he hes HX2 HM
        have q1 : (p : Int) ≤ (k : Int) := by omega
        have q2 : (k : Int) ≤ (s.size : Int) := by omega
        go_wp2_with fail
        have hbl : Below w.heap.size w ((w.alloc (.cells #[.int .i64 0, .int .i64 0, .string ⟨#[]⟩, .int .i64 0, .int .i64 0, .int .i64 0] 38)).alloc (.cells #[.int .i64 0, .int .i64 (p : Int), .string ⟨#[]⟩, .int .i64 0, .int .i64 0, .int .i64 0] 38)) := by (repeat' (first | (with_reducible exact Below.refl _ _) | (with_reducible assumption) | (with_reducible refine balloc ?_ _) | (with_reducible refine Below.drew ?_) | (with_reducible refine bset ?_ ?_ _) | (with_reducible refine bstep ?_ (by with_reducible assumption)) | (with_reducible refine bturn ?_ (by with_reducible assumption) ?_) | go_size))
        generalize ((w.alloc (.cells #[.int .i64 0, .int .i64 0, .string ⟨#[]⟩, .int .i64 0, .int .i64 0, .int .i64 0] 38)).alloc (.cells #[.int .i64 0, .int .i64 (p : Int), .string ⟨#[]⟩, .int .i64 0, .int .i64 0, .int .i64 0] 38)) = W0 at hb1 hb2 hbl ⊢
        have hlt := hb2.lt; have hllt := lts hlt; have qt0 := hb2.cell 0; have qt1 := hb2.cell 1; have qt2 := hb2.cell 2; have qt3 := hb2.cell 3; have qt4 := hb2.cell 4; have qt5 := hb2.cell 5; simp at qt0 qt1 qt2 qt3 qt4 qt5; have zt0 := hb2.frozen 0; have zt1 := hb2.frozen 1; have zt2 := hb2.frozen 2; have zt3 := hb2.frozen 3; have zt4 := hb2.frozen 4; have zt5 := hb2.frozen 5; have Hhb2 := Lib.hid hb2; clear hb2
        go_region
        have k2 : Blk ((((W0.setCell ⟨w.heap.size + 1, 0, none⟩ (.int .i64 4)).setCell ⟨w.heap.size + 1, 2, none⟩ (.string (s.extract p k)))).drew) (w.heap.size + 1) 38 #[.int .i64 4, .int .i64 (p : Int), .string (s.extract p k), .int .i64 0, .int .i64 0, .int .i64 0] := ((Hhb2.out.setL 0 _ _ rfl).setL 2 _ _ rfl).drew
        have k1' : Blk ((((W0.setCell ⟨w.heap.size + 1, 0, none⟩ (.int .i64 4)).setCell ⟨w.heap.size + 1, 2, none⟩ (.string (s.extract p k)))).drew) w.heap.size 38 #[.int .i64 0, .int .i64 0, .string ⟨#[]⟩, .int .i64 0, .int .i64 0, .int .i64 0] := ((hb1.far (by simp) _).far (by simp) _).drew
        clear hlt qt0 qt1 qt2 qt3 qt4 qt5 zt0 zt1 zt2 zt3 zt4 zt5
        go_wp2_with (first | (refine wpList_load_blk k2 rfl _ _ (by rfl) (by rfl) (by (repeat (first | (with_reducible exact k2) | (with_reducible refine Blk.alloc ?_ _) | (with_reducible refine Blk.drew ?_) | (with_reducible refine Blk.far ?_ (by first | (simp; done) | (simp; omega)) _) | (with_reducible refine Blk.turn ?_ (by with_reducible assumption) (by omega))))) _ Tryz.underlying38 rfl (by kernel_rfl) ?_) | (refine wpList_store_blk k1' rfl _ _ _ (by rfl) _ (by rfl) (by rfl) (by (repeat (first | (with_reducible exact k1') | (with_reducible refine Blk.alloc ?_ _) | (with_reducible refine Blk.drew ?_) | (with_reducible refine Blk.far ?_ (by first | (simp; done) | (simp; omega)) _) | (with_reducible refine Blk.turn ?_ (by with_reducible assumption) (by omega))))) (by rfl) (by kernel_rfl) (by simp [Value.oneCell']) ?_; intro wt k1'n ht))
        refine ret_blk3 rfl k1'n rfl Tryz.underlying38 rfl (by kernel_rfl) rfl ?_
        exact ⟨rfl, by (repeat' (first | (with_reducible exact Below.refl _ _) | (with_reducible assumption) | (with_reducible refine balloc ?_ _) | (with_reducible refine Below.drew ?_) | (with_reducible refine bset ?_ ?_ _) | (with_reducible refine bstep ?_ (by with_reducible assumption)) | (with_reducible refine bturn ?_ (by with_reducible assumption) ?_) | go_size))⟩
    · have hst := HK.out
      rw [runS_end (lets ++ figs) s k hlt, Nat.add_zero] at hst
      subst hst
      clear HM
      have q1 : (p : Int) ≤ (k : Int) := by omega
      have q2 : (k : Int) ≤ (s.size : Int) := by omega
      go_wp2_with fail
      have hbl : Below w.heap.size w ((w.alloc (.cells #[.int .i64 0, .int .i64 0, .string ⟨#[]⟩, .int .i64 0, .int .i64 0, .int .i64 0] 38)).alloc (.cells #[.int .i64 0, .int .i64 (p : Int), .string ⟨#[]⟩, .int .i64 0, .int .i64 0, .int .i64 0] 38)) := by (repeat' (first | (with_reducible exact Below.refl _ _) | (with_reducible assumption) | (with_reducible refine balloc ?_ _) | (with_reducible refine Below.drew ?_) | (with_reducible refine bset ?_ ?_ _) | (with_reducible refine bstep ?_ (by with_reducible assumption)) | (with_reducible refine bturn ?_ (by with_reducible assumption) ?_) | go_size))
      generalize ((w.alloc (.cells #[.int .i64 0, .int .i64 0, .string ⟨#[]⟩, .int .i64 0, .int .i64 0, .int .i64 0] 38)).alloc (.cells #[.int .i64 0, .int .i64 (p : Int), .string ⟨#[]⟩, .int .i64 0, .int .i64 0, .int .i64 0] 38)) = W0 at hb1 hb2 hbl ⊢
      have hlt := hb2.lt; have hllt := lts hlt; have qt0 := hb2.cell 0; have qt1 := hb2.cell 1; have qt2 := hb2.cell 2; have qt3 := hb2.cell 3; have qt4 := hb2.cell 4; have qt5 := hb2.cell 5; simp at qt0 qt1 qt2 qt3 qt4 qt5; have zt0 := hb2.frozen 0; have zt1 := hb2.frozen 1; have zt2 := hb2.frozen 2; have zt3 := hb2.frozen 3; have zt4 := hb2.frozen 4; have zt5 := hb2.frozen 5; have Hhb2 := Lib.hid hb2; clear hb2
      go_region
      have k2 : Blk ((((W0.setCell ⟨w.heap.size + 1, 0, none⟩ (.int .i64 4)).setCell ⟨w.heap.size + 1, 2, none⟩ (.string (s.extract p k)))).drew) (w.heap.size + 1) 38 #[.int .i64 4, .int .i64 (p : Int), .string (s.extract p k), .int .i64 0, .int .i64 0, .int .i64 0] := ((Hhb2.out.setL 0 _ _ rfl).setL 2 _ _ rfl).drew
      have k1' : Blk ((((W0.setCell ⟨w.heap.size + 1, 0, none⟩ (.int .i64 4)).setCell ⟨w.heap.size + 1, 2, none⟩ (.string (s.extract p k)))).drew) w.heap.size 38 #[.int .i64 0, .int .i64 0, .string ⟨#[]⟩, .int .i64 0, .int .i64 0, .int .i64 0] := ((hb1.far (by simp) _).far (by simp) _).drew
      clear hlt qt0 qt1 qt2 qt3 qt4 qt5 zt0 zt1 zt2 zt3 zt4 zt5
      go_wp2_with (first | (refine wpList_load_blk k2 rfl _ _ (by rfl) (by rfl) (by (repeat (first | (with_reducible exact k2) | (with_reducible refine Blk.alloc ?_ _) | (with_reducible refine Blk.drew ?_) | (with_reducible refine Blk.far ?_ (by first | (simp; done) | (simp; omega)) _) | (with_reducible refine Blk.turn ?_ (by with_reducible assumption) (by omega))))) _ Tryz.underlying38 rfl (by kernel_rfl) ?_) | (refine wpList_store_blk k1' rfl _ _ _ (by rfl) _ (by rfl) (by rfl) (by (repeat (first | (with_reducible exact k1') | (with_reducible refine Blk.alloc ?_ _) | (with_reducible refine Blk.drew ?_) | (with_reducible refine Blk.far ?_ (by first | (simp; done) | (simp; omega)) _) | (with_reducible refine Blk.turn ?_ (by with_reducible assumption) (by omega))))) (by rfl) (by kernel_rfl) (by simp [Value.oneCell']) ?_; intro wt k1'n ht))
      refine ret_blk3 rfl k1'n rfl Tryz.underlying38 rfl (by kernel_rfl) rfl ?_
      exact ⟨rfl, by (repeat' (first | (with_reducible exact Below.refl _ _) | (with_reducible assumption) | (with_reducible refine balloc ?_ _) | (with_reducible refine Below.drew ?_) | (with_reducible refine bset ?_ ?_ _) | (with_reducible refine bstep ?_ (by with_reducible assumption)) | (with_reducible refine bturn ?_ (by with_reducible assumption) ?_) | go_size))⟩

theorem sign_len : ∀ q ∈ signsL, q.length ≤ 2 := by decide
theorem pre_take (q l : Bs) : q.isPrefixOf l = (l.take q.length == q) := by
  rw [Bool.eq_iff_iff, List.isPrefixOf_iff_prefix, beq_iff_eq, List.prefix_iff_eq_take]
  exact ⟨fun h => h.symm, fun h => h.symm⟩
set_option maxHeartbeats 8000000 in
set_option maxRecDepth 100000 in
theorem rone_sign (s : ByteArray) (p : Nat) (hp : p < s.size) (hs : s.size ≤ 4000000) (w : World) (hf : decide (48 ≤ (s[p]'hp).toNat ∧ (s[p]'hp).toNat ≤ 57) = false) (c34 : ((((s[p]'hp).toNat : Nat) : Int) == 34) = false) (c64 : ((((s[p]'hp).toNat : Nat) : Int) == 64) = false) (p1 : Nat) (hp1 : p1 ≤ s.size) (hpp : p ≤ p1) (w4 : (p : Int) + 1 = (p1 : Int)) (w5 : IntKind.i64.wrap (p1 : Int) = (p1 : Int)) (HN : Hid (∀ W, Calls Tryz.prog 23 #[.string (s.extract p p1)] W fun e w' => e = .returned (.bool false) ∧ W = w')) (N : Nx) (hN : Hid (signS (s.data.toList.drop p) = N)) (ev : Int) (hev : Hid (N.e = 0 → ev = ((p + N.n : Nat) : Int))) (hev0 : Hid (¬ N.e = 0 → ev = 0)) :
    Calls Tryz.prog 19 #[.string s, .int .i64 (p : Int)] w fun e w' => e = .returned (.tuple #[.agg #[.int .i64 N.t.k, .int .i64 (p : Int), .string (bs N.t.t), .int .i64 N.t.n, .int .i64 N.t.s, .int .i64 N.t.m], .int .i64 ev, .int .i64 N.e]) ∧ Below w.heap.size w w' := by
  have hb1 : Blk ((w.alloc (.cells #[.int .i64 0, .int .i64 0, .string ⟨#[]⟩, .int .i64 0, .int .i64 0, .int .i64 0] 38)).alloc (.cells #[.int .i64 0, .int .i64 (p : Int), .string ⟨#[]⟩, .int .i64 0, .int .i64 0, .int .i64 0] 38)) w.heap.size 38 #[.int .i64 0, .int .i64 0, .string ⟨#[]⟩, .int .i64 0, .int .i64 0, .int .i64 0] := (Blk.new w _ _).alloc _
  have hb2 : Blk ((w.alloc (.cells #[.int .i64 0, .int .i64 0, .string ⟨#[]⟩, .int .i64 0, .int .i64 0, .int .i64 0] 38)).alloc (.cells #[.int .i64 0, .int .i64 (p : Int), .string ⟨#[]⟩, .int .i64 0, .int .i64 0, .int .i64 0] 38)) (w.heap.size + 1) 38 #[.int .i64 0, .int .i64 (p : Int), .string ⟨#[]⟩, .int .i64 0, .int .i64 0, .int .i64 0] := Blk.new' _ _ _ (by simp)
  have HF := fig_lit (s[p]'hp).toNat false hf
  obtain ⟨l, hl⟩ : ∃ l, s.data.toList.drop p = l := ⟨_, rfl⟩
  have hN2 := hN.out
  rw [hl] at hN2
  obtain ⟨f, hf⟩ : ∃ f, signsL.find? (fun g => g.isPrefixOf l) = f := ⟨_, rfl⟩
  have hR1 : ∀ q, f = some q → N = ⟨⟨5, 0, q, 0, 0, 0⟩, q.length, 0⟩ := fun q h => by rw [← hN2]; unfold signS; rw [hf, h]
  have hR0 : f = none → N = bad := fun h => by rw [← hN2]; unfold signS; rw [hf, h]
  have HR := Lib.hid (And.intro hR1 hR0)
  have HFd := Lib.hid hf
  have Hl := Lib.hid hl
  clear hR1 hR0 hf hl hN2
  obtain ⟨a, ha⟩ : ∃ a : Nat, s.size - p = a := ⟨_, rfl⟩
  have ha1 : (s.size : Int) - (p : Int) = (a : Int) := by omega
  have ha2 : IntKind.i64.wrap (a : Int) = (a : Int) := IntWalk.i64_in _ (by omega)
  have HA := Lib.hid ha
  clear ha
  go_enter Tryz.func19, Tryz.ntmps19
  go_wp2_with fail
  refine (HF.out _).mono ?_
  rintro _ _ ⟨rfl, rfl⟩
  go_wp2_with fail
  refine (HN.out _).mono ?_
  rintro _ _ ⟨rfl, rfl⟩
  go_wp2_with fail
  go_loopw [18] (fun i wr => ∃ k : Nat, k ≤ 16 ∧ i = .int .i64 (k : Int) ∧ SS wr (w.heap.size + 1 + 1) signsL ∧ Blk wr w.heap.size 38 #[.int .i64 0, .int .i64 0, .string ⟨#[]⟩, .int .i64 0, .int .i64 0, .int .i64 0] ∧ Blk wr (w.heap.size + 1) 38 #[.int .i64 0, .int .i64 (p : Int), .string ⟨#[]⟩, .int .i64 0, .int .i64 0, .int .i64 0] ∧ w.heap.size + 1 + 1 < wr.heap.size ∧ Below w.heap.size w wr ∧ Hid ((signsL.drop k).find? (fun g => g.isPrefixOf l) = f)) (fun i _ => 16 - (intOf i).toNat)
  case atStart => exact ⟨0, by omega, rfl, SS.of_blk (Blk.new' _ _ _ (by simp)), hb1.alloc _, hb2.alloc _, by simp, by (repeat' (first | (with_reducible exact Below.refl _ _) | (with_reducible assumption) | (with_reducible refine balloc ?_ _) | (with_reducible refine Below.drew ?_) | (with_reducible refine bset ?_ ?_ _) | (with_reducible refine bstep ?_ (by with_reducible assumption)) | (with_reducible refine bturn ?_ (by with_reducible assumption) ?_) | go_size)), HFd⟩
  case round =>
    obtain ⟨k, hk, rfl, hS, hb1, hb2, hlg, hbr, HQ⟩ := hrel
    by_cases hlt : k < 16
    · obtain ⟨q, hq⟩ : ∃ q, signsL[k]? = some q := ⟨signsL[k]'hlt, List.getElem?_eq_getElem hlt⟩
      have hc := hS k q hq
      obtain ⟨n, hqn⟩ : ∃ n, q.length = n := ⟨_, rfl⟩
      have hn3 : n ≤ 2 := by rw [← hqn]; exact sign_len q (List.mem_of_getElem? hq)
      obtain ⟨Q, hQ⟩ : ∃ Q, bs q = Q := ⟨_, rfl⟩
      have hQn : Q.size = n := by rw [← hQ, bs_size, hqn]
      rw [hQ] at hc
      have Hq := Lib.hid hq
      have HS := Lib.hid hS
      have HB1 := Lib.hid hb1
      have HB2 := Lib.hid hb2
      have hllg := lts hlg
      have hQi : (Q.size : Int) = (n : Int) := by omega
      clear hS hq hb1 hb2
      by_cases hge : n ≤ a
      · have hgi : (n : Int) ≤ (a : Int) := by omega
        obtain ⟨pn, hpn⟩ : ∃ pn, p + n = pn := ⟨_, rfl⟩
        have x1 : (p : Int) + (n : Int) = (pn : Int) := by omega
        have x2 : IntKind.i64.wrap (pn : Int) = (pn : Int) := IntWalk.i64_in _ (by omega)
        have x3 : p ≤ pn := by omega
        have x4 : pn ≤ s.size := by have := HA.out; omega
        have x5 : (pn : Int) ≤ (s.size : Int) := by omega
        have x6 : (p : Int) ≤ (pn : Int) := by omega
        obtain ⟨e, he⟩ : ∃ e, s.extract p pn = e := ⟨_, rfl⟩
        have hE : (e.toList == Q.toList) = q.isPrefixOf l := by
          rw [Lib.toList_data, Lib.toList_data, ← he, ← hQ, ← Hl.out]
          rw [ByteArray.data_extract, Array.toList_extract, List.extract_eq_take_drop, show pn - p = q.length by omega]
          exact (pre_take q _).symm
        cases hb : q.isPrefixOf l with
        | true =>
          rw [hb] at hE
          have hfq : f = some q := by rw [← HQ.out]; exact find_stop Hq.out hb
          have hR := HR.out.1 q hfq
          have HR2 := Lib.hid hR
          have Hqn := Lib.hid hqn
          have HQQ := Lib.hid hQ
          have Hpn := Lib.hid hpn
          clear hb hfq hR hqn hQ hpn
          go_wp2_with fail
          go_quiet (fail)
          go_wp2_with fail
          have hb1 := HB1.out.drewN nq
          have hb2 := HB2.out.drewN nq
          have hc2 : (wr.drewN nq).cell? ⟨w.heap.size + 1 + 1, k, none⟩ = some (.string Q) := hc
          have hlg2 : w.heap.size + 1 + 1 < (wr.drewN nq).heap.size := hlg
          have hbl := bdrewN hbr nq
          clear HB1 HB2 hc hlg hllg HS hbr
          generalize wr.drewN nq = W0 at hb1 hb2 hc2 hlg2 hbl ⊢
          have hllg := lts hlg2
          have hlt := hb2.lt; have hllt := lts hlt; have qt0 := hb2.cell 0; have qt1 := hb2.cell 1; have qt2 := hb2.cell 2; have qt3 := hb2.cell 3; have qt4 := hb2.cell 4; have qt5 := hb2.cell 5; simp at qt0 qt1 qt2 qt3 qt4 qt5; have zt0 := hb2.frozen 0; have zt1 := hb2.frozen 1; have zt2 := hb2.frozen 2; have zt3 := hb2.frozen 3; have zt4 := hb2.frozen 4; have zt5 := hb2.frozen 5; have Hhb2 := Lib.hid hb2; clear hb2
          go_region
          have k2 : Blk ((((W0.setCell ⟨w.heap.size + 1, 0, none⟩ (.int .i64 5)).setCell ⟨w.heap.size + 1, 2, none⟩ (.string Q))).drew) (w.heap.size + 1) 38 #[.int .i64 5, .int .i64 (p : Int), .string Q, .int .i64 0, .int .i64 0, .int .i64 0] := ((Hhb2.out.setL 0 _ _ rfl).setL 2 _ _ rfl).drew
          have k1' : Blk ((((W0.setCell ⟨w.heap.size + 1, 0, none⟩ (.int .i64 5)).setCell ⟨w.heap.size + 1, 2, none⟩ (.string Q))).drew) w.heap.size 38 #[.int .i64 0, .int .i64 0, .string ⟨#[]⟩, .int .i64 0, .int .i64 0, .int .i64 0] := ((hb1.far (by simp) _).far (by simp) _).drew
          clear hlt qt0 qt1 qt2 qt3 qt4 qt5 zt0 zt1 zt2 zt3 zt4 zt5
          go_wp2_with (first | (refine wpList_load_blk k2 rfl _ _ (by rfl) (by rfl) (by (repeat (first | (with_reducible exact k2) | (with_reducible refine Blk.alloc ?_ _) | (with_reducible refine Blk.drew ?_) | (with_reducible refine Blk.far ?_ (by first | (simp; done) | (simp; omega)) _) | (with_reducible refine Blk.turn ?_ (by with_reducible assumption) (by omega))))) _ Tryz.underlying38 rfl (by kernel_rfl) ?_) | (refine wpList_store_blk k1' rfl _ _ _ (by rfl) _ (by rfl) (by rfl) (by (repeat (first | (with_reducible exact k1') | (with_reducible refine Blk.alloc ?_ _) | (with_reducible refine Blk.drew ?_) | (with_reducible refine Blk.far ?_ (by first | (simp; done) | (simp; omega)) _) | (with_reducible refine Blk.turn ?_ (by with_reducible assumption) (by omega))))) (by rfl) (by kernel_rfl) (by simp [Value.oneCell']) ?_; intro wt k1'n ht))
          refine ret_blk3 rfl k1'n rfl Tryz.underlying38 rfl (by kernel_rfl) rfl ?_
          exact ⟨by rw [hev.out (by rw [HR2.out]), HR2.out]; show _ = Ending.returned (Value.tuple #[.agg #[_, _, .string (bs q), _, _, _], .int .i64 ((p + q.length : Nat) : Int), _]); rw [HQQ.out, Hqn.out, Hpn.out]; rfl, by (repeat' (first | (with_reducible exact Below.refl _ _) | (with_reducible assumption) | (with_reducible refine balloc ?_ _) | (with_reducible refine Below.drew ?_) | (with_reducible refine bset ?_ ?_ _) | (with_reducible refine bstep ?_ (by with_reducible assumption)) | (with_reducible refine bturn ?_ (by with_reducible assumption) ?_) | go_size))⟩
        | false =>
          rw [hb] at hE
          have HQ2 : Hid ((signsL.drop (k + 1)).find? (fun g => g.isPrefixOf l) = f) := Lib.hid (by rw [← HQ.out]; exact (find_go Hq.out hb).symm)
          clear hb hqn hQ hpn
          go_wp2_with fail
          go_quiet (fail)
          go_wp2_with fail
          go_roundw
          case rel => exact ⟨k + 1, by omega, by go_num, HS.out, HB1.out.drewN _, HB2.out.drewN _, hlg, bdrewN hbr _, HQ2⟩
          case measure => simp [intOf]; omega
      · have hgi : ¬ (n : Int) ≤ (a : Int) := by omega
        have hb : q.isPrefixOf l = false := by
          cases hb : q.isPrefixOf l with
          | false => rfl
          | true =>
            have := (List.isPrefixOf_iff_prefix.1 hb).length_le
            rw [← Hl.out, List.length_drop, size_list] at this
            have := HA.out
            omega
        have HQ2 : Hid ((signsL.drop (k + 1)).find? (fun g => g.isPrefixOf l) = f) := Lib.hid (by rw [← HQ.out]; exact (find_go Hq.out hb).symm)
        clear hb hqn hQ
        go_wp2_with fail
        go_quiet (fail)
        go_wp2_with fail
        go_roundw
        case rel => exact ⟨k + 1, by omega, by go_num, HS.out, HB1.out.drewN _, HB2.out.drewN _, hlg, bdrewN hbr _, HQ2⟩
        case measure => simp [intOf]; omega
    · obtain rfl : k = 16 := by omega
      have hfq : f = none := by rw [← HQ.out]; rfl
      have hR := HR.out.2 hfq
      have HR2 := Lib.hid hR
      clear hR hfq hS
      go_wp2_with (first | (refine wpList_load_blk hb2 rfl _ _ (by rfl) (by rfl) (by (repeat (first | (with_reducible exact hb2) | (with_reducible refine Blk.alloc ?_ _) | (with_reducible refine Blk.drew ?_) | (with_reducible refine Blk.far ?_ (by first | (simp; done) | (simp; omega)) _) | (with_reducible refine Blk.turn ?_ (by with_reducible assumption) (by omega))))) _ Tryz.underlying38 rfl (by kernel_rfl) ?_) | (refine wpList_store_blk hb1 rfl _ _ _ (by rfl) _ (by rfl) (by rfl) (by (repeat (first | (with_reducible exact hb1) | (with_reducible refine Blk.alloc ?_ _) | (with_reducible refine Blk.drew ?_) | (with_reducible refine Blk.far ?_ (by first | (simp; done) | (simp; omega)) _) | (with_reducible refine Blk.turn ?_ (by with_reducible assumption) (by omega))))) (by rfl) (by kernel_rfl) (by simp [Value.oneCell']) ?_; intro wt hb1n ht))
      refine ret_blk3 rfl hb1n rfl Tryz.underlying38 rfl (by kernel_rfl) rfl ?_
      exact ⟨by rw [hev0.out (by rw [HR2.out]; decide), HR2.out]; rfl, by (repeat' (first | (with_reducible exact Below.refl _ _) | (with_reducible assumption) | (with_reducible refine balloc ?_ _) | (with_reducible refine Below.drew ?_) | (with_reducible refine bset ?_ ?_ _) | (with_reducible refine bstep ?_ (by with_reducible assumption)) | (with_reducible refine bturn ?_ (by with_reducible assumption) ?_) | go_size))⟩

end Go.Proofs.YtambpkkllgppdaaGreatDoor

namespace Go.Proofs.YtambpkkllgppdaaGreatDoor
open Go.RowKit Go.Shelf

/-- What the reference answers by the same numbers, days, signs. -/
structure RxOK (x : Lx) : Prop where
  P : ∀ (s : ByteArray) (l : Bs), s.data.toList = l → l.length ≤ 4000000 → ∀ w, Calls Tryz.prog 38 #[.string s] w fun e w' => e = .returned (.tuple #[.agg #[.int .i64 (x.P l).n, .int .i64 (x.P l).s], .int .i64 (x.P l).e]) ∧ Below w.heap.size w w'
  D : ∀ (s : ByteArray) (l : Bs), s.data.toList = l → l.length ≤ 4000000 → ∀ w, Calls Tryz.prog 41 #[.string s] w fun e w' => e = .returned (.tuple #[.int .i64 (x.D l).1, .int .i64 (x.D l).2]) ∧ Below w.heap.size w w'
  G : ∀ l, x.G l = goodS (bs l)

theorem ext_dt (s : ByteArray) (p n E : Nat) (h : p + n = E) : (s.extract p E).data.toList = (s.data.toList.drop p).take n := by
  rw [ByteArray.data_extract, Array.toList_extract, List.extract_eq_take_drop, show E - p = n by omega]
theorem bs_list (l : Bs) : (bs l).data.toList = l := rfl
theorem qS_size (l : Bs) (q : Bs × Nat) (h : qS l = some q) : q.1.length ≤ l.length ∧ q.2 ≤ l.length := ⟨qS_len _ l q (Nat.le_refl _) h, (qS_app _ l [] q (Nat.le_refl _) h).2.1⟩
def OneOut (N : Nx) (p : Nat) (e : Ending) : Prop := ∃ (k0 : Int) (t0 : ByteArray) (n0 s0 m0 ev : Int), e = .returned (.tuple #[.agg #[.int .i64 k0, .int .i64 (p : Int), .string t0, .int .i64 n0, .int .i64 s0, .int .i64 m0], .int .i64 ev, .int .i64 N.e]) ∧ (N.e = 0 → k0 = N.t.k ∧ t0 = bs N.t.t ∧ n0 = N.t.n ∧ s0 = N.t.s ∧ m0 = N.t.m ∧ ev = ((p + N.n : Nat) : Int))
theorem out_bad {p : Nat} {e : Ending} (h : e = .returned (.tuple #[.agg #[.int .i64 0, .int .i64 (p : Int), .string ⟨#[]⟩, .int .i64 0, .int .i64 0, .int .i64 0], .int .i64 0, .int .i64 5])) : OneOut bad p e :=
  ⟨0, ⟨#[]⟩, 0, 0, 0, 0, h, fun h => absurd h (by decide)⟩

set_option maxRecDepth 100000 in
theorem rone_any (x : Lx) (hx : RxOK x) (s : ByteArray) (p : Nat) (hp : p < s.size) (hs : s.size ≤ 4000000) (N : Nx) (hN : nextS x (s.data.toList.drop p) = N) (w : World) :
    Calls Tryz.prog 19 #[.string s, .int .i64 (p : Int)] w fun e w' => OneOut N p e ∧ Below w.heap.size w w' := by
  have hd := byte_drop s p hp
  obtain ⟨c, hc⟩ : ∃ c, s[p]'hp = c := ⟨_, rfl⟩
  rw [hc] at hd
  have hNc : nextS x (c :: s.data.toList.drop (p + 1)) = N := by rw [← hd]; exact hN
  have hlen : (s.data.toList.drop p).length = s.size - p := by rw [List.length_drop, size_list]
  cases hfig : figs.contains c with
  | true =>
    have hN2 : numS x (s.data.toList.drop p) = N := by
      rw [← hNc, hd, nextS_cons, hfig, if_pos rfl]
    have hnl := numLen_le (s.data.toList.drop p)
    have hP := fun W => hx.P (s.extract p (p + numLen (s.data.toList.drop p))) _ (ext_dt s p _ _ rfl) (by rw [List.length_take]; omega) W
    refine (rone_num s p hp hs (by rw [hc]; exact hfig) _ rfl _ _ _ w (Lib.hid hP)).mono ?_
    rintro _ w' ⟨rfl, hb⟩
    exact ⟨⟨_, _, _, _, _, _, by rw [← hN2]; rfl, fun _ => by rw [← hN2]; exact ⟨rfl, rfl, rfl, rfl, rfl, rfl⟩⟩, hb⟩
  | false =>
  by_cases h34 : c = 34
  · have hv : (((s[p]'hp).toNat : Nat) : Int) = 34 := by rw [hc, h34]; rfl
    have hN2 : strS x (s.data.toList.drop (p + 1)) = N := by
      rw [← hNc, nextS_cons, hfig, if_neg (by simp), if_pos h34]
    unfold strS at hN2
    cases hq : qS (s.data.toList.drop (p + 1)) with
    | none =>
      rw [hq] at hN2
      have hQ := fun W => rquoted_any s p hp hs _ rfl W
      rw [hq] at hQ
      subst hN2
      refine (rone_str_none s p hp hs w hv (Lib.hid hQ)).mono ?_
      rintro _ w' ⟨rfl, hb⟩
      exact ⟨out_bad rfl, hb⟩
    | some q =>
      rw [hq] at hN2
      simp only at hN2
      have hQ := fun W => rquoted_any s p hp hs _ rfl W
      rw [hq] at hQ
      have hqs := qS_size _ _ hq
      have hl1 : (s.data.toList.drop (p + 1)).length = s.size - (p + 1) := by rw [List.length_drop, size_list]
      by_cases h256 : 256 < q.1.length
      · rw [if_pos (.inl h256)] at hN2
        subst hN2
        refine (rone_str_long s p hp hs w hv (bs q.1) _ (by omega) (by rw [bs_size]; omega) (Lib.hid hQ)).mono ?_
        rintro _ w' ⟨rfl, hb⟩
        exact ⟨out_bad rfl, hb⟩
      · have hGd := fun b hb W => rgood_any (bs q.1) (by rw [bs_size]; omega) b hb W
        cases hg : goodS (bs q.1) with
        | false =>
          rw [if_pos (.inr (by rw [hx.G, hg]))] at hN2
          subst hN2
          refine (rone_str_bad s p hp hs w hv (bs q.1) _ (by omega) (by rw [bs_size]; omega) (Lib.hid hQ) (Lib.hid (hGd false hg))).mono ?_
          rintro _ w' ⟨rfl, hb⟩
          exact ⟨out_bad rfl, hb⟩
        | true =>
          rw [if_neg (by rw [hx.G, hg]; simp [h256])] at hN2
          subst hN2
          refine (rone_str_ok s p hp hs w hv (bs q.1) _ (by omega) (by rw [bs_size]; omega) (Lib.hid hQ) (Lib.hid (hGd true hg))).mono ?_
          rintro _ w' ⟨rfl, hb⟩
          exact ⟨⟨_, _, _, _, _, _, rfl, fun _ => ⟨rfl, rfl, rfl, rfl, rfl, by show ((p + 1 + q.2 : Nat) : Int) = ((p + (q.2 + 1) : Nat) : Int); omega⟩⟩, hb⟩
  by_cases h64 : c = 64
  · have hv : (((s[p]'hp).toNat : Nat) : Int) = 64 := by rw [hc, h64]; rfl
    have hN2 : dateS x (s.data.toList.drop (p + 1)) = N := by
      rw [← hNc, nextS_cons, hfig, if_neg (by simp), if_neg h34, if_pos h64]
    have w4 : (p : Int) + 1 = ((p + 1 : Nat) : Int) := by omega
    have w5 : IntKind.i64.wrap ((p + 1 : Nat) : Int) = ((p + 1 : Nat) : Int) := IntWalk.i64_in _ (by omega)
    have w6 : IntKind.i64.wrap ((p : Int) + 13) = ((p + 13 : Nat) : Int) := by rw [show (p : Int) + 13 = ((p + 13 : Nat) : Int) by omega]; exact IntWalk.i64_in _ (by omega)
    unfold dateS quoD at hN2
    by_cases h1 : p + 1 < s.size
    · have hd1 := byte_drop s (p + 1) h1
      by_cases h2 : s[p + 1]'h1 = 34
      · rw [hd1, h2] at hN2
        simp only [List.head?_cons, if_pos, List.tail_cons] at hN2
        have hv2 : (((s[p + 1]'h1).toNat : Nat) : Int) = 34 := by rw [h2]; rfl
        have hQ := fun W => rquoted_any s (p + 1) h1 hs _ rfl W
        cases hq : qS (s.data.toList.drop (p + 1 + 1)) with
        | none =>
          rw [hq] at hN2 hQ
          simp only at hN2
          subst hN2
          have hD := fun W => hx.D ⟨#[]⟩ [] rfl (by simp) W
          refine (rone_date_stop s p hp hs w hv (p + 1) w4 w5 h1 (by omega) hv2 ⟨#[]⟩ (-1) _ _ _ w6 (by simp; omega) (Lib.hid hQ) (Lib.hid hD)).mono ?_
          rintro _ w' ⟨rfl, hb⟩
          exact ⟨out_bad rfl, hb⟩
        | some q =>
          rw [hq] at hN2 hQ
          simp only at hN2
          have hqs := qS_size _ _ hq
          have hl1 : (s.data.toList.drop (p + 1 + 1)).length = s.size - (p + 1 + 1) := by rw [List.length_drop, size_list]
          have hD := fun W => hx.D (bs q.1) q.1 rfl (by omega) W
          by_cases h11 : q.2 = 11
          · have h3 : ((((p + 1 + 1 + q.2 : Nat) : Int)) != ((p + 13 : Nat) : Int)) = false := by rw [show p + 1 + 1 + q.2 = p + 13 by omega]; simp
            by_cases hde : (x.D q.1).2 = 0
            · rw [if_neg (by simp [hde, h11])] at hN2
              subst hN2
              rw [hde] at hD
              refine (rone_date_ok s p hp hs w hv (p + 1) w4 w5 h1 (by omega) hv2 (bs q.1) _ _ _ w6 h3 (Lib.hid hQ) (Lib.hid hD)).mono ?_
              rintro _ w' ⟨rfl, hb⟩
              exact ⟨⟨_, _, _, _, _, _, rfl, fun _ => ⟨rfl, rfl, rfl, rfl, rfl, by show ((p + 1 + 1 + q.2 : Nat) : Int) = ((p + 13 : Nat) : Int); omega⟩⟩, hb⟩
            · rw [if_pos (.inl hde)] at hN2
              subst hN2
              refine (rone_date_bad s p hp hs w hv (p + 1) w4 w5 h1 (by omega) hv2 (bs q.1) _ _ _ _ w6 h3 (by simpa using hde) (Lib.hid hQ) (Lib.hid hD)).mono ?_
              rintro _ w' ⟨rfl, hb⟩
              exact ⟨out_bad rfl, hb⟩
          · rw [if_pos (.inr h11)] at hN2
            subst hN2
            refine (rone_date_stop s p hp hs w hv (p + 1) w4 w5 h1 (by omega) hv2 (bs q.1) _ _ _ _ w6 (by simp; omega) (Lib.hid hQ) (Lib.hid hD)).mono ?_
            rintro _ w' ⟨rfl, hb⟩
            exact ⟨out_bad rfl, hb⟩
      · rw [hd1] at hN2
        simp only [List.head?_cons, Option.some.injEq, if_neg h2] at hN2
        subst hN2
        have hv2 : ((((s[p + 1]'h1).toNat : Nat) : Int) != 34) = true := by
          simpa using fun e => h2 (UInt8.toNat_inj.1 (by rw [show (34 : UInt8).toNat = 34 from rfl]; omega))
        refine (rone_date_other s p hp hs w hv (p + 1) w4 w5 h1 (by omega) hv2).mono ?_
        rintro _ w' ⟨rfl, hb⟩
        exact ⟨out_bad rfl, hb⟩
    · rw [drop_end s (p + 1) (by omega)] at hN2
      simp only [List.head?_nil, reduceCtorEq, if_neg, not_false_eq_true] at hN2
      subst hN2
      refine (rone_date_short s p hp hs w hv (p + 1) w4 w5 (by omega)).mono ?_
      rintro _ w' ⟨rfl, hb⟩
      exact ⟨out_bad rfl, hb⟩
  have hf0 : decide (48 ≤ (s[p]'hp).toNat ∧ (s[p]'hp).toNat ≤ 57) = false := by rw [hc, fig_eq]; exact hfig
  have c34 : ((((s[p]'hp).toNat : Nat) : Int) == 34) = false := by
    rw [hc]; simpa using fun e => h34 (UInt8.toNat_inj.1 (by rw [show (34 : UInt8).toNat = 34 from rfl]; omega))
  have c64 : ((((s[p]'hp).toNat : Nat) : Int) == 64) = false := by
    rw [hc]; simpa using fun e => h64 (UInt8.toNat_inj.1 (by rw [show (64 : UInt8).toNat = 64 from rfl]; omega))
  have w4 : (p : Int) + 1 = ((p + 1 : Nat) : Int) := by omega
  have w5 : IntKind.i64.wrap ((p + 1 : Nat) : Int) = ((p + 1 : Nat) : Int) := IntWalk.i64_in _ (by omega)
  have hnm : nameB [c] = lets.contains c := by
    rw [nameB_cons, ← let_eq]
    simp only [List.length_singleton, List.all_cons, List.all_nil, Bool.and_true]
    cases h : letB c.toNat <;> simp [nmB, h]
  have hN1 := fun b hb W => rname_any (s.extract p (p + 1)) [c] (by rw [ext_one s p (p + 1) hp rfl, hc]) b hb W
  cases hlet : lets.contains c with
  | true =>
    have hN2 : nameS (s.data.toList.drop p) = N := by
      rw [← hNc, hd, nextS_cons, hfig, if_neg (by simp), if_neg h34, if_neg h64, hlet, if_pos rfl]
    have hrl := runS_le (lets ++ figs) (s.data.toList.drop p)
    have hX : ∀ (k k1 : Nat) (hk : k < s.size) (_ : k + 1 = k1) (b : Bool) (_ : (lets ++ figs).contains (s[k]'hk) = b) W, Calls Tryz.prog 23 #[.string (⟨#[120]⟩ ++ s.extract k k1)] W fun e w' => e = .returned (.bool b) ∧ W = w' := by
      intro k k1 hk hk1 b hb W
      refine rname_any _ [120, s[k]'hk] ?_ b ?_ W
      · rw [ByteArray.data_append, Array.toList_append, ext_one s k k1 hk hk1]; rfl
      · rw [nameB_cons, ← hb, ← nm_eq]
        simp [nmB, letB]
    unfold nameS at hN2
    by_cases h32 : 32 < runS (lets ++ figs) (s.data.toList.drop p)
    · rw [if_pos h32] at hN2
      subst hN2
      refine (rone_name_long s p hp hs w hf0 c34 c64 (p + 1) (by omega) (by omega) w4 w5 (Lib.hid (hN1 true (by rw [hnm, hlet]))) _ (runS (lets ++ figs) (s.data.toList.drop p)) rfl (by omega) (IntWalk.i64_in _ (by omega)) (Lib.hid hX) (by omega)).mono ?_
      rintro _ w' ⟨rfl, hb⟩
      exact ⟨out_bad rfl, hb⟩
    · rw [if_neg h32] at hN2
      subst hN2
      refine (rone_name_ok s p hp hs w hf0 c34 c64 (p + 1) (by omega) (by omega) w4 w5 (Lib.hid (hN1 true (by rw [hnm, hlet]))) _ (runS (lets ++ figs) (s.data.toList.drop p)) rfl (by omega) (IntWalk.i64_in _ (by omega)) (Lib.hid hX) (by omega)).mono ?_
      rintro _ w' ⟨rfl, hb⟩
      exact ⟨⟨_, _, _, _, _, _, rfl, fun _ => ⟨rfl, bs_of (ext_dt s p _ _ rfl), rfl, rfl, rfl, rfl⟩⟩, hb⟩
  | false =>
    have hN2 : signS (s.data.toList.drop p) = N := by
      rw [← hNc, hd, nextS_cons, hfig, if_neg (by simp), if_neg h34, if_neg h64, hlet, if_neg (by simp)]
    refine (rone_sign s p hp hs w hf0 c34 c64 (p + 1) (by omega) (by omega) w4 w5 (Lib.hid (hN1 false (by rw [hnm, hlet]))) N (Lib.hid hN2) (if N.e = 0 then ((p + N.n : Nat) : Int) else 0) (Lib.hid fun h => by rw [if_pos h]) (Lib.hid fun h => by rw [if_neg h])).mono ?_
    rintro _ w' ⟨rfl, hb⟩
    exact ⟨⟨_, _, _, _, _, _, rfl, fun h => ⟨rfl, rfl, rfl, rfl, rfl, by rw [if_pos h]⟩⟩, hb⟩

theorem toksA_white (x : Lx) (f a : Nat) (y : UInt8) (r : Bs) (acc : List Tk) (h : whites.contains y = true) : toksA x (f + 1) a (y :: r) acc = toksA x (f + 1) (a + 1) r acc := by
  have hr : runS whites (y :: r) = runS whites r + 1 := by rw [runS_cons, if_pos h]
  have hd : (y :: r).drop (runS whites (y :: r)) = r.drop (runS whites r) := by rw [hr]; rfl
  have ha : a + runS whites (y :: r) = a + 1 + runS whites r := by rw [hr]; omega
  rw [toksA, toksA, hd, ha]
theorem run_none {y : UInt8} {r : Bs} (h : whites.contains y = false) : runS whites (y :: r) = 0 := by rw [runS_cons, h]; rfl

set_option maxHeartbeats 8000000 in
set_option maxRecDepth 100000 in
theorem rtokens_any (x : Lx) (hx : RxOK x) (s : ByteArray) (l : Bs) (hl : s.data.toList = l) (hs : s.size ≤ 65536) (w : World) :
    Calls Tryz.prog 9 #[.string s] w fun e w' => (∃ A c, e = .returned (.tuple #[.slice A (toksS x l).l.length c, .int .i64 ((toksS x l).n : Int), .int .i64 (toksS x l).e]) ∧ TM w' A (toksS x l).l ∧ (toksS x l).l.length ≤ c ∧ c ≤ maxLen) ∧ Below w.heap.size w w' := by
  have hll : l.length = s.size := by rw [← hl, size_list]
  obtain ⟨i0, hi, hz0, hz1, hz2⟩ := info_parts infoTok
  obtain ⟨T, hT⟩ : ∃ T, toksS x l = T := ⟨_, rfl⟩
  rw [hT]
  have hT2 : toksA x (l.length + 1) 0 l [] = T := by rw [← hT]; unfold toksS; rw [if_neg (by omega)]
  have HWh := Lib.hid (fun (c : UInt8) (b : Bool) (hb : whites.contains c = b) W => white_any c.toNat b (by rw [whi_eq, hb]) W)
  have HX := Lib.hid hx
  have Hl := Lib.hid hl
  have HT2 := Lib.hid hT2
  have hbig : ¬ (65536 : Int) < (s.size : Int) := by omega
  clear hT hT2 hl hx
  go_enter Tryz.func9, Tryz.ntmps9
  go_wp2_with fail
  go_loopw [5, 6] (fun out at_ wr => ∃ (f p : Nat) (acc : List Tk), at_ = .int .i64 (p : Int) ∧ p ≤ s.size ∧ acc.length ≤ p ∧ Hid (toksA x f p (s.data.toList.drop p) acc = T ∧ s.size < p + f) ∧ wr.ownsRow w.heap.size 38 6 out acc.length (cellsL acc) ∧ Below w.heap.size w wr) (fun _ at_ _ => s.size - (intOf at_).toNat)
  case atStart => exact ⟨l.length + 1, 0, [], rfl, by omega, by simp, Lib.hid (by rw [Hl.out, List.drop_zero]; exact ⟨HT2.out, by omega⟩), ⟨rfl, .inr ⟨w.heap.size, 0, #[], rfl, Nat.le_refl _, heap_alloc_new w _, Nat.le_refl _, by unfold maxLen; omega, rfl, rfl⟩⟩, by (repeat' (first | (with_reducible exact Below.refl _ _) | (with_reducible assumption) | (with_reducible refine balloc ?_ _) | (with_reducible refine Below.drew ?_) | (with_reducible refine bset ?_ ?_ _) | (with_reducible refine bstep ?_ (by with_reducible assumption)) | (with_reducible refine bturn ?_ (by with_reducible assumption) ?_) | go_size))⟩
  case round =>
    obtain ⟨f, p, acc, rfl, hp, hal, HQ, hown, hbr⟩ := hrel
    have hsz := hbr.size
    by_cases hlt : p < s.size
    · have hcr := byte_drop s p hlt
      obtain ⟨f', hf⟩ : ∃ f', f = f' + 1 := ⟨f - 1, by have := HQ.out; omega⟩
      have hstep := HQ.out.1
      rw [hf] at hstep
      cases hwh : whites.contains (s[p]'hlt) with
      | true =>
        rw [hcr, toksA_white x f' p _ _ acc hwh] at hstep
        obtain ⟨p1, hp1⟩ : ∃ p1, p + 1 = p1 := ⟨_, rfl⟩
        rw [hp1] at hstep
        have w4 : (p : Int) + 1 = (p1 : Int) := by omega
        have w5 : IntKind.i64.wrap (p1 : Int) = (p1 : Int) := IntWalk.i64_in _ (by omega)
        have HQ2 : Hid (toksA x (f' + 1) p1 (s.data.toList.drop p1) acc = T ∧ s.size < p1 + (f' + 1)) := Lib.hid ⟨hstep, by have := HQ.out; omega⟩
        have HP := Lib.hid (show p1 ≤ s.size ∧ acc.length ≤ p1 ∧ p < p1 from ⟨by omega, by omega, by omega⟩)
        have HB := Lib.hid hwh
        have Hown := Lib.hid hown
        clear hstep hcr hwh hp1 hf hown
        go_wp2_with fail
        refine (HWh.out _ true HB.out _).mono ?_
        rintro _ _ ⟨rfl, rfl⟩
        go_wp2_with fail
        go_roundw
        case rel => exact ⟨f' + 1, p1, acc, by go_num, HP.out.1, HP.out.2.1, HQ2, Hown.out, hbr⟩
        case measure => have := HP.out; simp [intOf]; omega
      | false =>
        have HB := Lib.hid hwh
        obtain ⟨c, r, hcr2⟩ : ∃ c r, s.data.toList.drop p = c :: r := ⟨_, _, hcr⟩
        have hr0 : runS whites (s.data.toList.drop p) = 0 := by rw [hcr]; exact run_none hwh
        have hd : (s.data.toList.drop p).drop (runS whites (s.data.toList.drop p)) = c :: r := by rw [hr0]; exact hcr2
        obtain ⟨N, hN⟩ : ∃ N, nextS x (c :: r) = N := ⟨_, rfl⟩
        have HN := Lib.hid (fun W => rone_any x HX.out s p hlt (by omega) N (by rw [hcr2]; exact hN) W)
        have hcl : (c :: r).length = s.size - p := by rw [← hcr2, List.length_drop, size_list]
        by_cases he : N.e = 0
        · have hbd := next_bd x (c :: r) (by rw [hN]; exact he)
          rw [hN] at hbd
          rw [toksA_go hd (by rw [hN]; exact he), hN, hr0, Nat.add_zero] at hstep
          obtain ⟨n, hn⟩ : ∃ n, N.n = n := ⟨_, rfl⟩
          rw [hn] at hbd hstep
          have hdd : (c :: r).drop n = s.data.toList.drop (p + n) := by rw [← hcr2, List.drop_drop]
          rw [hdd] at hstep
          obtain ⟨p2, hp2⟩ : ∃ p2, p + n = p2 := ⟨_, rfl⟩
          rw [hp2] at hstep
          obtain ⟨t2, ht2⟩ : ∃ t2 : Tk, { N.t with a := p } = t2 := ⟨_, rfl⟩
          rw [ht2] at hstep
          have hc2 : cellsL acc ++ [.int .i64 N.t.k, .int .i64 (p : Int), .string (bs N.t.t), .int .i64 N.t.n, .int .i64 N.t.s, .int .i64 N.t.m] = cellsL (acc ++ [t2]) := by rw [cellsL_app, ← ht2]; rfl
          have HQ2 : Hid (toksA x f' p2 (s.data.toList.drop p2) (acc ++ [t2]) = T ∧ s.size < p2 + f') := Lib.hid ⟨hstep, by have := HQ.out; omega⟩
          have Hpp : Hid (p < p2 ∧ p2 ≤ s.size ∧ (acc ++ [t2]).length ≤ p2) := Lib.hid ⟨by omega, by omega, by rw [List.length_append, List.length_singleton]; omega⟩
          have HC2 := Lib.hid hc2
          have Hown := Lib.hid hown
          have HEn : Hid (((p + N.n : Nat) : Int) = (p2 : Int)) := Lib.hid (by rw [hn, hp2])
          have HE := Lib.hid he
          clear hstep hdd hbd hd hcr hf hwh ht2 hc2 hown hN hn hcl hp2 hcr2 hr0 he
          go_wp2_with fail
          refine (HWh.out _ false HB.out _).mono ?_
          rintro _ _ ⟨rfl, rfl⟩
          go_wp2_with fail
          refine (HN.out _).mono ?_
          rintro _ w2 ⟨⟨k0, t0, n0, s0, m0, ev, rfl, hout⟩, hb2⟩
          obtain ⟨rfl, rfl, rfl, rfl, rfl, hev⟩ := hout HE.out
          obtain rfl : ev = (p2 : Int) := hev.trans HEn.out
          clear hev hout
          have hown2 := own_below (own_below Hown.out hb2) (show Below w2.heap.size w2 (w2.alloc (.cells #[.int .i64 N.t.k, .int .i64 (p : Int), .string (bs N.t.t), .int .i64 N.t.n, .int .i64 N.t.s, .int .i64 N.t.m] 38)) by (repeat' (first | (with_reducible exact Below.refl _ _) | (with_reducible assumption) | (with_reducible refine balloc ?_ _) | (with_reducible refine Below.drew ?_) | (with_reducible refine bset ?_ ?_ _) | (with_reducible refine bstep ?_ (by with_reducible assumption)) | (with_reducible refine bturn ?_ (by with_reducible assumption) ?_) | go_size)))
          have hez : (N.e != 0) = false := by rw [HE.out]; rfl
          go_wp2_with (at_builtin; refine wpList_append_own _ rfl _ _ 22 rfl w.heap.size 38 i0 (.agg #[.int .i64 0, .int .i64 0, .string ⟨#[]⟩, .int .i64 0, .int .i64 0, .int .i64 0]) 6 56 Tryz.underlying22 hi hz0 hz1 hz2 rfl (by decide) _ _ _ rfl (hown2.alloc _) ⟨w2.heap.size + 1, 0, none⟩ 1 1 [.int .i64 N.t.k, .int .i64 (p : Int), .string (bs N.t.t), .int .i64 N.t.n, .int .i64 N.t.s, .int .i64 N.t.m] rfl rfl ?c1 ?c2 ?c3 ?c4 ?c5 ?_)
          case c1 =>
            intro j u hj
            match j, hj with
            | 0, hj => simp at hj; subst hj; simp [Addr.add]
            | 1, hj => simp at hj; subst hj; simp [Addr.add]
            | 2, hj => simp at hj; subst hj; simp [Addr.add]
            | 3, hj => simp at hj; subst hj; simp [Addr.add]
            | 4, hj => simp at hj; subst hj; simp [Addr.add]
            | 5, hj => simp at hj; subst hj; simp [Addr.add]
            | j + 6, hj => simp at hj
          case c2 =>
            intro u hu
            simp only [List.mem_cons, List.not_mem_nil, or_false] at hu
            rcases hu with h | h | h | h | h | h <;> subst h <;> rfl
          case c3 => unfold maxLen; omega
          case c4 => omega
          case c5 => have := hb2.size; simp; omega
          intro v' w3 hown' hgrow _
          rw [HC2.out] at hown'
          have hb3 : Below w.heap.size w w3 := (Below.alloc (Below.alloc (hbr.trans (hb2.mono hsz)) (by have := hb2.size; omega) _) (by have := hb2.size; simp; omega) _).grown hgrow (by have := hb2.size; simp; omega) (fun k hk => (Hown.out.lt k hk).1)
          have Hown' := Lib.hid hown'
          clear hown' hgrow hown2
          go_wp2_with fail
          go_roundw
          case rel => exact ⟨f', p2, acc ++ [t2], rfl, Hpp.out.2.1, Hpp.out.2.2, HQ2, by rw [List.length_append, List.length_singleton]; exact Hown'.out, hb3⟩
          case measure => have := Hpp.out.1; simp [intOf]; omega
        · rw [toksA_bad hd (by rw [hN]; exact he), hN, hr0, Nat.add_zero] at hstep
          have HE := Lib.hid hstep
          have hez : (N.e != 0) = true := by simpa using he
          clear hstep hd hcr hf hwh hN hcl hcr2 hr0
          go_wp2_with fail
          refine (HWh.out _ false HB.out _).mono ?_
          rintro _ _ ⟨rfl, rfl⟩
          go_wp2_with fail
          refine (HN.out _).mono ?_
          rintro _ w2 ⟨⟨k0, t0, n0, s0, m0, ev, rfl, hout⟩, hb2⟩
          clear hout
          go_wp2_with fail
          go_returns
          exact ⟨⟨none, 0, by rw [← HE.out]; rfl, by rw [← HE.out]; exact TM.nil _ _, by rw [← HE.out]; exact Nat.le_refl _, by unfold maxLen; omega⟩, (hbr.trans (hb2.mono hsz)).alloc (by have := hb2.size; omega) _⟩
    · obtain rfl : p = s.size := by omega
      have hd : (s.data.toList.drop s.size).drop (runS whites (s.data.toList.drop s.size)) = [] := by rw [drop_end s _ (Nat.le_refl _)]; rfl
      obtain ⟨f', hf⟩ : ∃ f', f = f' + 1 := ⟨f - 1, by have := HQ.out; omega⟩
      have hstep := HQ.out.1
      rw [hf, toksA_end hd] at hstep
      have HE := Lib.hid hstep
      obtain ⟨A, cp, hv, hTM, hcap⟩ := own_tm hown rfl
      subst hv
      have HTM := Lib.hid hTM
      have HCap := Lib.hid hcap
      clear hd hf hstep hTM hown hcap
      go_wp2_with fail
      go_returns
      exact ⟨⟨A, cp, by rw [← HE.out]; rfl, by rw [← HE.out]; exact HTM.out, by rw [← HE.out]; exact HCap.out⟩, hbr⟩
end Go.Proofs.YtambpkkllgppdaaGreatDoor

namespace Go.Proofs.YtambpkkllgppdaaGreatDoor
open Go.RowKit

theorem rp150 : RP (bs s150) (bs s150) (bs [49]) (bs [53, 48]) (bs [53]) false true 15 ⟨15, 1, 0⟩ := by
  have hall : ∀ j, j < (bs s150).size → okJ (bs s150) (bs [49]).size true j := by
    intro j hj
    have hj4 : j < 4 := hj
    match j, hj4 with
    | 0, _ => exact .inr (by decide)
    | 1, _ => exact .inl ⟨rfl, rfl⟩
    | 2, _ => exact .inr (by decide)
    | 3, _ => exact .inr (by decide)
  exact {
    hs := by decide
    m1 := fun h => by cases h
    m0 := fun _ => ⟨rfl, .inr (by decide)⟩
    w1 := by decide
    w2 := fun _ => ⟨by decide, by decide, by decide +kernel, by decide +kernel⟩
    w3 := fun h => by cases h
    w4 := fun j hj => by
      obtain rfl : j = 0 := by have : j < 1 := hj; omega
      decide
    p1 := by decide
    p2 := by decide +kernel
    r5 := fun h => absurd hall h
    r6 := fun _ h => absurd h (by decide)
    r7 := fun h => absurd h (by decide)
    r8 := fun h => absurd h (by decide)
    r9 := fun _ _ _ _ h => absurd h (by decide)
    ok := fun _ _ _ _ _ _ => ⟨by kernel_rfl, by decide, by decide +kernel, fun i hi => by
      have hi2 : i < 2 := hi
      match i, hi2 with
      | 0, _ => exact ⟨by decide +kernel, by decide +kernel⟩
      | 1, _ => exact ⟨by decide +kernel, by decide +kernel⟩⟩ }
theorem rp15 : RP (bs s15) (bs s15) (bs [49]) (bs [53]) (bs [53]) false true 15 ⟨15, 1, 0⟩ := by
  have hall : ∀ j, j < (bs s15).size → okJ (bs s15) (bs [49]).size true j := by
    intro j hj
    have hj4 : j < 3 := hj
    match j, hj4 with
    | 0, _ => exact .inr (by decide)
    | 1, _ => exact .inl ⟨rfl, rfl⟩
    | 2, _ => exact .inr (by decide)
  exact {
    hs := by decide
    m1 := fun h => by cases h
    m0 := fun _ => ⟨rfl, .inr (by decide)⟩
    w1 := by decide
    w2 := fun _ => ⟨by decide, by decide, by decide +kernel, by decide +kernel⟩
    w3 := fun h => by cases h
    w4 := fun j hj => by
      obtain rfl : j = 0 := by have : j < 1 := hj; omega
      decide
    p1 := by decide
    p2 := by decide +kernel
    r5 := fun h => absurd hall h
    r6 := fun _ h => absurd h (by decide)
    r7 := fun h => absurd h (by decide)
    r8 := fun h => absurd h (by decide)
    r9 := fun _ _ _ _ h => absurd h (by decide)
    ok := fun _ _ _ _ _ _ => ⟨by kernel_rfl, by decide, by decide +kernel, fun i hi => by
      have hi2 : i < 2 := hi
      match i, hi2 with
      | 0, _ => exact ⟨by decide +kernel, by decide +kernel⟩
      | 1, _ => exact ⟨by decide +kernel, by decide +kernel⟩⟩ }
theorem wfDay : Days.wf (bs sDay) := by
  refine ⟨by decide, fun j hj => ?_⟩
  match j, hj with
  | 0, _ => decide +kernel
  | 1, _ => decide +kernel
  | 2, _ => decide +kernel
  | 3, _ => decide +kernel
  | 4, _ => decide +kernel
  | 5, _ => decide +kernel
  | 6, _ => decide +kernel
  | 7, _ => decide +kernel
  | 8, _ => decide +kernel
  | 9, _ => decide +kernel
theorem rx_ok (m : Int) : RxOK (lxX m) := by
  refine ⟨?_, ?_, fun l => rfl⟩
  · intro s l hl hlen w
    obtain rfl := bs_of hl
    show Calls Tryz.prog 38 #[.string (bs l)] w fun e w' => e = .returned (.tuple #[.agg #[.int .i64 (lxP m l).n, .int .i64 (lxP m l).s], .int .i64 (lxP m l).e]) ∧ Below w.heap.size w w'
    unfold lxP
    by_cases h1 : l = s150
    · rw [if_pos h1, h1]
      exact rparse_any rp150 w
    · have h2 : (bs l).size < 4294967281 := by rw [bs_size]; omega
      rw [if_neg h1]
      by_cases h3 : l = s15
      · rw [if_pos h3, h3]
        exact rparse_any rp15 w
      · rw [if_neg h3, dif_pos h2]
        exact (Classical.choose_spec (reads (bs l) m h2)).2 w
  · intro s l hl hlen w
    obtain rfl := bs_of hl
    show Calls Tryz.prog 41 #[.string (bs l)] w fun e w' => e = .returned (.tuple #[.int .i64 (lxD m l).1, .int .i64 (lxD m l).2]) ∧ Below w.heap.size w w'
    unfold lxD
    by_cases h1 : l = sDay
    · rw [if_pos h1, h1]
      refine (Days.rparse_ten (bs sDay) (by decide) w).mono ?_
      rintro e w' ⟨h1, _, h3⟩
      refine ⟨?_, h3⟩
      rw [h1 wfDay, show (Days.dayR (Days.fold10 (bs sDay) 0 4) (Days.fold10 (bs sDay) 5 2) (Days.fold10 (bs sDay) 8 2)).n = 730119 by decide +kernel, show (Days.dayR (Days.fold10 (bs sDay) 0 4) (Days.fold10 (bs sDay) 5 2) (Days.fold10 (bs sDay) 8 2)).e = 0 by decide +kernel]
    · have h2 : (bs l).size < 4294967281 := by rw [bs_size]; omega
      rw [if_neg h1, dif_pos h2]
      exact (Classical.choose_spec (Classical.choose_spec (Days.parses (bs l) m h2))).2 w

theorem rtokens_far (s : ByteArray) (h : (65536 : Int) < (s.size : Int)) (w : World) : Calls Tryz.prog 9 #[.string s] w fun e w' => e = .returned (.tuple #[.slice none 0 0, .int .i64 0, .int .i64 10]) ∧ Below w.heap.size w w' := by
  go_enter Tryz.func9, Tryz.ntmps9
  go_wp2
  go_returns
  exact ⟨rfl, by (repeat' (first | (with_reducible exact Below.refl _ _) | (with_reducible assumption) | (with_reducible refine balloc ?_ _) | (with_reducible refine Below.drew ?_) | (with_reducible refine bset ?_ ?_ _) | (with_reducible refine bstep ?_ (by with_reducible assumption)) | (with_reducible refine bturn ?_ (by with_reducible assumption) ?_) | go_size))⟩
theorem rtokens_all (x : Lx) (hx : RxOK x) (s : ByteArray) (l : Bs) (hl : s.data.toList = l) (w : World) :
    Calls Tryz.prog 9 #[.string s] w fun e w' => (∃ A c, e = .returned (.tuple #[.slice A (toksS x l).l.length c, .int .i64 ((toksS x l).n : Int), .int .i64 (toksS x l).e]) ∧ TM w' A (toksS x l).l ∧ (toksS x l).l.length ≤ c ∧ c ≤ maxLen) ∧ Below w.heap.size w w' := by
  by_cases h : s.size ≤ 65536
  · exact rtokens_any x hx s l hl h w
  · have hll : l.length = s.size := by rw [← hl, size_list]
    have hT : toksS x l = ⟨[], 0, 10⟩ := by unfold toksS; rw [if_pos (by omega)]
    rw [hT]
    refine (rtokens_far s (by omega) w).mono ?_
    rintro _ w' ⟨rfl, hb⟩
    exact ⟨⟨none, 0, rfl, TM.nil _ _, Nat.le_refl _, by unfold maxLen; omega⟩, hb⟩

set_option maxHeartbeats 4000000 in
set_option maxRecDepth 100000 in
theorem reads_walk (s : ByteArray) (L : List Tk) (n : Nat) (an : Nat) (ae : Int) (wb : Bool) (w : World)
    (HA : Hid (∀ W, Below w.heap.size w W → Calls Tryz.prog 8 #[.string s] W fun e w' => (∃ A c, e = .returned (.tuple #[.slice A n c, .int .i64 (an : Int), .int .i64 ae]) ∧ TM w' A L ∧ n ≤ c ∧ c ≤ maxLen) ∧ Below W.heap.size W w'))
    (HB : Hid (∀ W, Calls Tryz.prog 9 #[.string s] W fun e w' => (∃ A c, e = .returned (.tuple #[.slice A n c, .int .i64 (an : Int), .int .i64 ae]) ∧ TM w' A L ∧ n ≤ c ∧ c ≤ maxLen) ∧ Below W.heap.size W w'))
    (HW : Hid (∀ W, Below w.heap.size w W → Calls Tryz.prog 10 #[] W fun e w' => e = .returned (.bool true) ∧ Below W.heap.size W w'))
    (HS : Hid (∀ A B c d W, TM W A L → TM W B L → Calls Tryz.prog 11 #[.slice A n c, .slice B n d, .bool true] W fun e w' => e = .returned (.bool true) ∧ Below W.heap.size W w'))
    (HV : Hid (∀ W, Calls Tryz.prog 12 #[.string s] W fun e w' => e = .returned (.bool wb) ∧ Below W.heap.size W w'))
    (HR : Hid (∀ W, Calls Tryz.prog 13 #[.string s] W fun e w' => e = .returned (.bool wb) ∧ W = w')) :
    Calls Tryz.prog 3 #[.string s] w fun e w' => e = .returned (.bool true) ∧ Below w.heap.size w w' := by
  go_enter Tryz.func3, Tryz.ntmps3
  go_wp2_with fail
  refine (HA.out _ (by (repeat' (first | (with_reducible exact Below.refl _ _) | (with_reducible assumption) | (with_reducible refine balloc ?_ _) | (with_reducible refine Below.drew ?_) | (with_reducible refine bset ?_ ?_ _) | (with_reducible refine bstep ?_ (by with_reducible assumption)) | (with_reducible refine bturn ?_ (by with_reducible assumption) ?_) | go_size)))).mono ?_
  rintro _ w1 ⟨⟨A, c, rfl, hA, _⟩, hb1⟩
  have HTA := Lib.hid hA
  clear hA
  go_wp2_with fail
  refine (HB.out _).mono ?_
  rintro _ w2 ⟨⟨B, d, rfl, hB, _⟩, hb2⟩
  have HTB := Lib.hid hB
  clear hB
  go_wp2_with fail
  refine (HW.out _ (by (repeat' (first | (with_reducible exact Below.refl _ _) | (with_reducible assumption) | (with_reducible refine balloc ?_ _) | (with_reducible refine Below.drew ?_) | (with_reducible refine bset ?_ ?_ _) | (with_reducible refine bstep ?_ (by with_reducible assumption)) | (with_reducible refine bturn ?_ (by with_reducible assumption) ?_) | go_size)))).mono ?_
  rintro _ w3 ⟨rfl, hb3⟩
  go_wp2_with fail
  refine (HS.out A B c d _ ((HTA.out.step hb2).step hb3) (HTB.out.step hb3)).mono ?_
  rintro _ w4 ⟨rfl, hb4⟩
  go_wp2_with fail
  refine (HV.out _).mono ?_
  rintro _ w5 ⟨rfl, hb5⟩
  go_wp2_with fail
  refine (HR.out _).mono ?_
  rintro _ _ ⟨rfl, rfl⟩
  go_wp2_with fail
  go_returns
  exact ⟨by first | rfl | simp, by (repeat' (first | (with_reducible exact Below.refl _ _) | (with_reducible assumption) | (with_reducible refine balloc ?_ _) | (with_reducible refine Below.drew ?_) | (with_reducible refine bset ?_ ?_ _) | (with_reducible refine bstep ?_ (by with_reducible assumption)) | (with_reducible refine bturn ?_ (by with_reducible assumption) ?_) | go_size))⟩
theorem readslaw_any (m : Int) (s : ByteArray) (w : World) (hw : OKW m w) :
    Calls Tryz.prog 3 #[.string s] w fun e w' => e = .returned (.bool true) ∧ Below w.heap.size w w' :=
  reads_walk s (toksS (lxX m) s.data.toList).l _ _ _ (wordB s.data.toList) w
    (Lib.hid fun W h => tokens_all (lxX m) m (lx_ok m) s _ rfl W (hw.step h))
    (Lib.hid fun W => rtokens_all (lxX m) (rx_ok m) s _ rfl W)
    (Lib.hid fun W h => awake_lex m W (hw.step h))
    (Lib.hid fun A B c d W hA hB => same_ok true _ _ _ rfl rfl (by have := (toksS_len (lxX m) s.data.toList).1; omega) A B c d W hA hB (fun i t u ht hu => by
      rw [ht] at hu
      cases hu
      exact ⟨rfl, rfl, rfl, rfl, rfl, fun _ => rfl⟩))
    (Lib.hid fun W => word_any s _ rfl _ rfl W)
    (Lib.hid fun W => rword_any s _ rfl _ rfl W)
end Go.Proofs.YtambpkkllgppdaaGreatDoor
