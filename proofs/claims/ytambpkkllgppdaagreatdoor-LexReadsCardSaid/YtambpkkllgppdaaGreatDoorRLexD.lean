/- The walks of the reference's one at a text, a date, a name, a sign. -/
import Derived.Test.YtambpkkllgppdaaGreatDoorRLexC
namespace Go.Proofs.YtambpkkllgppdaaGreatDoor
open Go.RowKit

theorem fig_lit (n : Nat) (b : Bool) (hb : decide (48 ≤ n ∧ n ≤ 57) = b) : Hid (∀ W, Calls Tryz.prog 37 #[.int .u8 (n : Int)] W fun e w' => e = .returned (.bool b) ∧ W = w') := Lib.hid (fun W => figure_any n b hb W)
set_option maxHeartbeats 8000000 in
set_option maxRecDepth 100000 in
theorem rone_str_none (s : ByteArray) (p : Nat) (hp : p < s.size) (hs : s.size ≤ 4000000) (w : World) (hv : (((s[p]'hp).toNat : Nat) : Int) = 34) (HQ : Hid (∀ W, Calls Tryz.prog 39 #[.string s, .int .i64 (p : Int)] W fun e w' => e = .returned (.tuple #[.string ⟨#[]⟩, .int .i64 (-1)]) ∧ W = w')) :
    Calls Tryz.prog 19 #[.string s, .int .i64 (p : Int)] w fun e w' => e = .returned (.tuple #[.agg #[.int .i64 0, .int .i64 (p : Int), .string ⟨#[]⟩, .int .i64 0, .int .i64 0, .int .i64 0], .int .i64 0, .int .i64 5]) ∧ Below w.heap.size w w' := by
  have hb1 : Blk ((w.alloc (.cells #[.int .i64 0, .int .i64 0, .string ⟨#[]⟩, .int .i64 0, .int .i64 0, .int .i64 0] 38)).alloc (.cells #[.int .i64 0, .int .i64 (p : Int), .string ⟨#[]⟩, .int .i64 0, .int .i64 0, .int .i64 0] 38)) w.heap.size 38 #[.int .i64 0, .int .i64 0, .string ⟨#[]⟩, .int .i64 0, .int .i64 0, .int .i64 0] := (Blk.new w _ _).alloc _
  have hb2 : Blk ((w.alloc (.cells #[.int .i64 0, .int .i64 0, .string ⟨#[]⟩, .int .i64 0, .int .i64 0, .int .i64 0] 38)).alloc (.cells #[.int .i64 0, .int .i64 (p : Int), .string ⟨#[]⟩, .int .i64 0, .int .i64 0, .int .i64 0] 38)) (w.heap.size + 1) 38 #[.int .i64 0, .int .i64 (p : Int), .string ⟨#[]⟩, .int .i64 0, .int .i64 0, .int .i64 0] := Blk.new' _ _ _ (by simp)
  have HF := fig_lit 34 false rfl
  go_enter Tryz.func19, Tryz.ntmps19
  go_wp2_with fail
  refine (HF.out _).mono ?_
  rintro _ _ ⟨rfl, rfl⟩
  go_wp2_with fail
  refine (HQ.out _).mono ?_
  rintro _ _ ⟨rfl, rfl⟩
  go_wp2_with (first | (refine wpList_load_blk hb2 rfl _ _ (by rfl) (by rfl) (by (repeat (first | (with_reducible exact hb2) | (with_reducible refine Blk.alloc ?_ _) | (with_reducible refine Blk.drew ?_) | (with_reducible refine Blk.far ?_ (by first | (simp; done) | (simp; omega)) _) | (with_reducible refine Blk.turn ?_ (by with_reducible assumption) (by omega))))) _ Tryz.underlying38 rfl (by kernel_rfl) ?_) | (refine wpList_store_blk hb1 rfl _ _ _ (by rfl) _ (by rfl) (by rfl) (by (repeat (first | (with_reducible exact hb1) | (with_reducible refine Blk.alloc ?_ _) | (with_reducible refine Blk.drew ?_) | (with_reducible refine Blk.far ?_ (by first | (simp; done) | (simp; omega)) _) | (with_reducible refine Blk.turn ?_ (by with_reducible assumption) (by omega))))) (by rfl) (by kernel_rfl) (by simp [Value.oneCell']) ?_; intro wt hb1n ht))
  refine ret_blk3 rfl hb1n rfl Tryz.underlying38 rfl (by kernel_rfl) rfl ?_
  exact ⟨rfl, by (repeat' (first | (with_reducible exact Below.refl _ _) | (with_reducible assumption) | (with_reducible refine balloc ?_ _) | (with_reducible refine Below.drew ?_) | (with_reducible refine bset ?_ ?_ _) | (with_reducible refine bstep ?_ (by with_reducible assumption)) | (with_reducible refine bturn ?_ (by with_reducible assumption) ?_) | go_size))⟩

set_option maxHeartbeats 8000000 in
set_option maxRecDepth 100000 in
theorem rone_str_long (s : ByteArray) (p : Nat) (hp : p < s.size) (hs : s.size ≤ 4000000) (w : World) (hv : (((s[p]'hp).toNat : Nat) : Int) = 34) (x : ByteArray) (st : Int) (hst : 0 ≤ st) (hx : (256 : Int) < (x.size : Int)) (HQ : Hid (∀ W, Calls Tryz.prog 39 #[.string s, .int .i64 (p : Int)] W fun e w' => e = .returned (.tuple #[.string x, .int .i64 st]) ∧ W = w')) :
    Calls Tryz.prog 19 #[.string s, .int .i64 (p : Int)] w fun e w' => e = .returned (.tuple #[.agg #[.int .i64 0, .int .i64 (p : Int), .string ⟨#[]⟩, .int .i64 0, .int .i64 0, .int .i64 0], .int .i64 0, .int .i64 5]) ∧ Below w.heap.size w w' := by
  have hb1 : Blk ((w.alloc (.cells #[.int .i64 0, .int .i64 0, .string ⟨#[]⟩, .int .i64 0, .int .i64 0, .int .i64 0] 38)).alloc (.cells #[.int .i64 0, .int .i64 (p : Int), .string ⟨#[]⟩, .int .i64 0, .int .i64 0, .int .i64 0] 38)) w.heap.size 38 #[.int .i64 0, .int .i64 0, .string ⟨#[]⟩, .int .i64 0, .int .i64 0, .int .i64 0] := (Blk.new w _ _).alloc _
  have hb2 : Blk ((w.alloc (.cells #[.int .i64 0, .int .i64 0, .string ⟨#[]⟩, .int .i64 0, .int .i64 0, .int .i64 0] 38)).alloc (.cells #[.int .i64 0, .int .i64 (p : Int), .string ⟨#[]⟩, .int .i64 0, .int .i64 0, .int .i64 0] 38)) (w.heap.size + 1) 38 #[.int .i64 0, .int .i64 (p : Int), .string ⟨#[]⟩, .int .i64 0, .int .i64 0, .int .i64 0] := Blk.new' _ _ _ (by simp)
  have HF := fig_lit 34 false rfl
  go_enter Tryz.func19, Tryz.ntmps19
  go_wp2_with fail
  refine (HF.out _).mono ?_
  rintro _ _ ⟨rfl, rfl⟩
  go_wp2_with fail
  refine (HQ.out _).mono ?_
  rintro _ _ ⟨rfl, rfl⟩
  go_wp2_with (first | (refine wpList_load_blk hb2 rfl _ _ (by rfl) (by rfl) (by (repeat (first | (with_reducible exact hb2) | (with_reducible refine Blk.alloc ?_ _) | (with_reducible refine Blk.drew ?_) | (with_reducible refine Blk.far ?_ (by first | (simp; done) | (simp; omega)) _) | (with_reducible refine Blk.turn ?_ (by with_reducible assumption) (by omega))))) _ Tryz.underlying38 rfl (by kernel_rfl) ?_) | (refine wpList_store_blk hb1 rfl _ _ _ (by rfl) _ (by rfl) (by rfl) (by (repeat (first | (with_reducible exact hb1) | (with_reducible refine Blk.alloc ?_ _) | (with_reducible refine Blk.drew ?_) | (with_reducible refine Blk.far ?_ (by first | (simp; done) | (simp; omega)) _) | (with_reducible refine Blk.turn ?_ (by with_reducible assumption) (by omega))))) (by rfl) (by kernel_rfl) (by simp [Value.oneCell']) ?_; intro wt hb1n ht))
  refine ret_blk3 rfl hb1n rfl Tryz.underlying38 rfl (by kernel_rfl) rfl ?_
  exact ⟨rfl, by (repeat' (first | (with_reducible exact Below.refl _ _) | (with_reducible assumption) | (with_reducible refine balloc ?_ _) | (with_reducible refine Below.drew ?_) | (with_reducible refine bset ?_ ?_ _) | (with_reducible refine bstep ?_ (by with_reducible assumption)) | (with_reducible refine bturn ?_ (by with_reducible assumption) ?_) | go_size))⟩

set_option maxHeartbeats 8000000 in
set_option maxRecDepth 100000 in
theorem rone_str_bad (s : ByteArray) (p : Nat) (hp : p < s.size) (hs : s.size ≤ 4000000) (w : World) (hv : (((s[p]'hp).toNat : Nat) : Int) = 34) (x : ByteArray) (st : Int) (hst : 0 ≤ st) (hx : ¬ (256 : Int) < (x.size : Int)) (HQ : Hid (∀ W, Calls Tryz.prog 39 #[.string s, .int .i64 (p : Int)] W fun e w' => e = .returned (.tuple #[.string x, .int .i64 st]) ∧ W = w')) (HG : Hid (∀ W, Calls Tryz.prog 40 #[.string x] W fun e w' => e = .returned (.bool false) ∧ W = w')) :
    Calls Tryz.prog 19 #[.string s, .int .i64 (p : Int)] w fun e w' => e = .returned (.tuple #[.agg #[.int .i64 0, .int .i64 (p : Int), .string ⟨#[]⟩, .int .i64 0, .int .i64 0, .int .i64 0], .int .i64 0, .int .i64 5]) ∧ Below w.heap.size w w' := by
  have hb1 : Blk ((w.alloc (.cells #[.int .i64 0, .int .i64 0, .string ⟨#[]⟩, .int .i64 0, .int .i64 0, .int .i64 0] 38)).alloc (.cells #[.int .i64 0, .int .i64 (p : Int), .string ⟨#[]⟩, .int .i64 0, .int .i64 0, .int .i64 0] 38)) w.heap.size 38 #[.int .i64 0, .int .i64 0, .string ⟨#[]⟩, .int .i64 0, .int .i64 0, .int .i64 0] := (Blk.new w _ _).alloc _
  have hb2 : Blk ((w.alloc (.cells #[.int .i64 0, .int .i64 0, .string ⟨#[]⟩, .int .i64 0, .int .i64 0, .int .i64 0] 38)).alloc (.cells #[.int .i64 0, .int .i64 (p : Int), .string ⟨#[]⟩, .int .i64 0, .int .i64 0, .int .i64 0] 38)) (w.heap.size + 1) 38 #[.int .i64 0, .int .i64 (p : Int), .string ⟨#[]⟩, .int .i64 0, .int .i64 0, .int .i64 0] := Blk.new' _ _ _ (by simp)
  have HF := fig_lit 34 false rfl
  go_enter Tryz.func19, Tryz.ntmps19
  go_wp2_with fail
  refine (HF.out _).mono ?_
  rintro _ _ ⟨rfl, rfl⟩
  go_wp2_with fail
  refine (HQ.out _).mono ?_
  rintro _ _ ⟨rfl, rfl⟩
  go_wp2_with fail
  refine (HG.out _).mono ?_
  rintro _ _ ⟨rfl, rfl⟩
  go_wp2_with (first | (refine wpList_load_blk hb2 rfl _ _ (by rfl) (by rfl) (by (repeat (first | (with_reducible exact hb2) | (with_reducible refine Blk.alloc ?_ _) | (with_reducible refine Blk.drew ?_) | (with_reducible refine Blk.far ?_ (by first | (simp; done) | (simp; omega)) _) | (with_reducible refine Blk.turn ?_ (by with_reducible assumption) (by omega))))) _ Tryz.underlying38 rfl (by kernel_rfl) ?_) | (refine wpList_store_blk hb1 rfl _ _ _ (by rfl) _ (by rfl) (by rfl) (by (repeat (first | (with_reducible exact hb1) | (with_reducible refine Blk.alloc ?_ _) | (with_reducible refine Blk.drew ?_) | (with_reducible refine Blk.far ?_ (by first | (simp; done) | (simp; omega)) _) | (with_reducible refine Blk.turn ?_ (by with_reducible assumption) (by omega))))) (by rfl) (by kernel_rfl) (by simp [Value.oneCell']) ?_; intro wt hb1n ht))
  refine ret_blk3 rfl hb1n rfl Tryz.underlying38 rfl (by kernel_rfl) rfl ?_
  exact ⟨rfl, by (repeat' (first | (with_reducible exact Below.refl _ _) | (with_reducible assumption) | (with_reducible refine balloc ?_ _) | (with_reducible refine Below.drew ?_) | (with_reducible refine bset ?_ ?_ _) | (with_reducible refine bstep ?_ (by with_reducible assumption)) | (with_reducible refine bturn ?_ (by with_reducible assumption) ?_) | go_size))⟩

set_option maxHeartbeats 8000000 in
set_option maxRecDepth 100000 in
theorem rone_str_ok (s : ByteArray) (p : Nat) (hp : p < s.size) (hs : s.size ≤ 4000000) (w : World) (hv : (((s[p]'hp).toNat : Nat) : Int) = 34) (x : ByteArray) (st : Int) (hst : 0 ≤ st) (hx : ¬ (256 : Int) < (x.size : Int)) (HQ : Hid (∀ W, Calls Tryz.prog 39 #[.string s, .int .i64 (p : Int)] W fun e w' => e = .returned (.tuple #[.string x, .int .i64 st]) ∧ W = w')) (HG : Hid (∀ W, Calls Tryz.prog 40 #[.string x] W fun e w' => e = .returned (.bool true) ∧ W = w')) :
    Calls Tryz.prog 19 #[.string s, .int .i64 (p : Int)] w fun e w' => e = .returned (.tuple #[.agg #[.int .i64 2, .int .i64 (p : Int), .string x, .int .i64 0, .int .i64 0, .int .i64 0], .int .i64 st, .int .i64 0]) ∧ Below w.heap.size w w' := by
  have hb1 : Blk ((w.alloc (.cells #[.int .i64 0, .int .i64 0, .string ⟨#[]⟩, .int .i64 0, .int .i64 0, .int .i64 0] 38)).alloc (.cells #[.int .i64 0, .int .i64 (p : Int), .string ⟨#[]⟩, .int .i64 0, .int .i64 0, .int .i64 0] 38)) w.heap.size 38 #[.int .i64 0, .int .i64 0, .string ⟨#[]⟩, .int .i64 0, .int .i64 0, .int .i64 0] := (Blk.new w _ _).alloc _
  have hb2 : Blk ((w.alloc (.cells #[.int .i64 0, .int .i64 0, .string ⟨#[]⟩, .int .i64 0, .int .i64 0, .int .i64 0] 38)).alloc (.cells #[.int .i64 0, .int .i64 (p : Int), .string ⟨#[]⟩, .int .i64 0, .int .i64 0, .int .i64 0] 38)) (w.heap.size + 1) 38 #[.int .i64 0, .int .i64 (p : Int), .string ⟨#[]⟩, .int .i64 0, .int .i64 0, .int .i64 0] := Blk.new' _ _ _ (by simp)
  have HF := fig_lit 34 false rfl
  go_enter Tryz.func19, Tryz.ntmps19
  go_wp2_with fail
  refine (HF.out _).mono ?_
  rintro _ _ ⟨rfl, rfl⟩
  go_wp2_with fail
  refine (HQ.out _).mono ?_
  rintro _ _ ⟨rfl, rfl⟩
  go_wp2_with fail
  refine (HG.out _).mono ?_
  rintro _ _ ⟨rfl, rfl⟩
  have hbl : Below w.heap.size w ((w.alloc (.cells #[.int .i64 0, .int .i64 0, .string ⟨#[]⟩, .int .i64 0, .int .i64 0, .int .i64 0] 38)).alloc (.cells #[.int .i64 0, .int .i64 (p : Int), .string ⟨#[]⟩, .int .i64 0, .int .i64 0, .int .i64 0] 38)) := by (repeat' (first | (with_reducible exact Below.refl _ _) | (with_reducible assumption) | (with_reducible refine balloc ?_ _) | (with_reducible refine Below.drew ?_) | (with_reducible refine bset ?_ ?_ _) | (with_reducible refine bstep ?_ (by with_reducible assumption)) | (with_reducible refine bturn ?_ (by with_reducible assumption) ?_) | go_size))
  generalize ((w.alloc (.cells #[.int .i64 0, .int .i64 0, .string ⟨#[]⟩, .int .i64 0, .int .i64 0, .int .i64 0] 38)).alloc (.cells #[.int .i64 0, .int .i64 (p : Int), .string ⟨#[]⟩, .int .i64 0, .int .i64 0, .int .i64 0] 38)) = W0 at hb1 hb2 hbl ⊢
  have hlt := hb2.lt; have hllt := lts hlt; have qt0 := hb2.cell 0; have qt1 := hb2.cell 1; have qt2 := hb2.cell 2; have qt3 := hb2.cell 3; have qt4 := hb2.cell 4; have qt5 := hb2.cell 5; simp at qt0 qt1 qt2 qt3 qt4 qt5; have zt0 := hb2.frozen 0; have zt1 := hb2.frozen 1; have zt2 := hb2.frozen 2; have zt3 := hb2.frozen 3; have zt4 := hb2.frozen 4; have zt5 := hb2.frozen 5; have Hhb2 := Lib.hid hb2; clear hb2
  go_upto_region 18 with fail
  have k2 : Blk (((W0.setCell ⟨w.heap.size + 1, 0, none⟩ (.int .i64 2)).setCell ⟨w.heap.size + 1, 2, none⟩ (.string x))) (w.heap.size + 1) 38 #[.int .i64 2, .int .i64 (p : Int), .string x, .int .i64 0, .int .i64 0, .int .i64 0] := ((Hhb2.out.setL 0 _ _ rfl).setL 2 _ _ rfl)
  have k1' : Blk (((W0.setCell ⟨w.heap.size + 1, 0, none⟩ (.int .i64 2)).setCell ⟨w.heap.size + 1, 2, none⟩ (.string x))) w.heap.size 38 #[.int .i64 0, .int .i64 0, .string ⟨#[]⟩, .int .i64 0, .int .i64 0, .int .i64 0] := ((hb1.far (by simp) _).far (by simp) _)
  clear hlt qt0 qt1 qt2 qt3 qt4 qt5 zt0 zt1 zt2 zt3 zt4 zt5
  go_wp2_with (first | (refine wpList_load_blk k2 rfl _ _ (by rfl) (by rfl) (by (repeat (first | (with_reducible exact k2) | (with_reducible refine Blk.alloc ?_ _) | (with_reducible refine Blk.drew ?_) | (with_reducible refine Blk.far ?_ (by first | (simp; done) | (simp; omega)) _) | (with_reducible refine Blk.turn ?_ (by with_reducible assumption) (by omega))))) _ Tryz.underlying38 rfl (by kernel_rfl) ?_) | (refine wpList_store_blk k1' rfl _ _ _ (by rfl) _ (by rfl) (by rfl) (by (repeat (first | (with_reducible exact k1') | (with_reducible refine Blk.alloc ?_ _) | (with_reducible refine Blk.drew ?_) | (with_reducible refine Blk.far ?_ (by first | (simp; done) | (simp; omega)) _) | (with_reducible refine Blk.turn ?_ (by with_reducible assumption) (by omega))))) (by rfl) (by kernel_rfl) (by simp [Value.oneCell']) ?_; intro wt k1'n ht))
  refine ret_blk3 rfl k1'n rfl Tryz.underlying38 rfl (by kernel_rfl) rfl ?_
  exact ⟨rfl, by (repeat' (first | (with_reducible exact Below.refl _ _) | (with_reducible assumption) | (with_reducible refine balloc ?_ _) | (with_reducible refine Below.drew ?_) | (with_reducible refine bset ?_ ?_ _) | (with_reducible refine bstep ?_ (by with_reducible assumption)) | (with_reducible refine bturn ?_ (by with_reducible assumption) ?_) | go_size))⟩

set_option maxHeartbeats 8000000 in
set_option maxRecDepth 100000 in
theorem rone_date_short (s : ByteArray) (p : Nat) (hp : p < s.size) (hs : s.size ≤ 4000000) (w : World) (hv : (((s[p]'hp).toNat : Nat) : Int) = 64) (p1 : Nat) (w4 : (p : Int) + 1 = (p1 : Int)) (w5 : IntKind.i64.wrap (p1 : Int) = (p1 : Int)) (h1 : (s.size : Int) ≤ (p1 : Int)) :
    Calls Tryz.prog 19 #[.string s, .int .i64 (p : Int)] w fun e w' => e = .returned (.tuple #[.agg #[.int .i64 0, .int .i64 (p : Int), .string ⟨#[]⟩, .int .i64 0, .int .i64 0, .int .i64 0], .int .i64 0, .int .i64 5]) ∧ Below w.heap.size w w' := by
  have hb1 : Blk ((w.alloc (.cells #[.int .i64 0, .int .i64 0, .string ⟨#[]⟩, .int .i64 0, .int .i64 0, .int .i64 0] 38)).alloc (.cells #[.int .i64 0, .int .i64 (p : Int), .string ⟨#[]⟩, .int .i64 0, .int .i64 0, .int .i64 0] 38)) w.heap.size 38 #[.int .i64 0, .int .i64 0, .string ⟨#[]⟩, .int .i64 0, .int .i64 0, .int .i64 0] := (Blk.new w _ _).alloc _
  have hb2 : Blk ((w.alloc (.cells #[.int .i64 0, .int .i64 0, .string ⟨#[]⟩, .int .i64 0, .int .i64 0, .int .i64 0] 38)).alloc (.cells #[.int .i64 0, .int .i64 (p : Int), .string ⟨#[]⟩, .int .i64 0, .int .i64 0, .int .i64 0] 38)) (w.heap.size + 1) 38 #[.int .i64 0, .int .i64 (p : Int), .string ⟨#[]⟩, .int .i64 0, .int .i64 0, .int .i64 0] := Blk.new' _ _ _ (by simp)
  have HF := fig_lit 64 false rfl
  go_enter Tryz.func19, Tryz.ntmps19
  go_wp2_with fail
  refine (HF.out _).mono ?_
  rintro _ _ ⟨rfl, rfl⟩
  go_wp2_with (first | (refine wpList_load_blk hb2 rfl _ _ (by rfl) (by rfl) (by (repeat (first | (with_reducible exact hb2) | (with_reducible refine Blk.alloc ?_ _) | (with_reducible refine Blk.drew ?_) | (with_reducible refine Blk.far ?_ (by first | (simp; done) | (simp; omega)) _) | (with_reducible refine Blk.turn ?_ (by with_reducible assumption) (by omega))))) _ Tryz.underlying38 rfl (by kernel_rfl) ?_) | (refine wpList_store_blk hb1 rfl _ _ _ (by rfl) _ (by rfl) (by rfl) (by (repeat (first | (with_reducible exact hb1) | (with_reducible refine Blk.alloc ?_ _) | (with_reducible refine Blk.drew ?_) | (with_reducible refine Blk.far ?_ (by first | (simp; done) | (simp; omega)) _) | (with_reducible refine Blk.turn ?_ (by with_reducible assumption) (by omega))))) (by rfl) (by kernel_rfl) (by simp [Value.oneCell']) ?_; intro wt hb1n ht))
  refine ret_blk3 rfl hb1n rfl Tryz.underlying38 rfl (by kernel_rfl) rfl ?_
  exact ⟨rfl, by (repeat' (first | (with_reducible exact Below.refl _ _) | (with_reducible assumption) | (with_reducible refine balloc ?_ _) | (with_reducible refine Below.drew ?_) | (with_reducible refine bset ?_ ?_ _) | (with_reducible refine bstep ?_ (by with_reducible assumption)) | (with_reducible refine bturn ?_ (by with_reducible assumption) ?_) | go_size))⟩

set_option maxHeartbeats 8000000 in
set_option maxRecDepth 100000 in
theorem rone_date_other (s : ByteArray) (p : Nat) (hp : p < s.size) (hs : s.size ≤ 4000000) (w : World) (hv : (((s[p]'hp).toNat : Nat) : Int) = 64) (p1 : Nat) (w4 : (p : Int) + 1 = (p1 : Int)) (w5 : IntKind.i64.wrap (p1 : Int) = (p1 : Int)) (h1n : p1 < s.size) (h1 : ¬ (s.size : Int) ≤ (p1 : Int)) (h2 : ((((s[p1]'h1n).toNat : Nat) : Int) != 34) = true) :
    Calls Tryz.prog 19 #[.string s, .int .i64 (p : Int)] w fun e w' => e = .returned (.tuple #[.agg #[.int .i64 0, .int .i64 (p : Int), .string ⟨#[]⟩, .int .i64 0, .int .i64 0, .int .i64 0], .int .i64 0, .int .i64 5]) ∧ Below w.heap.size w w' := by
  have hb1 : Blk ((w.alloc (.cells #[.int .i64 0, .int .i64 0, .string ⟨#[]⟩, .int .i64 0, .int .i64 0, .int .i64 0] 38)).alloc (.cells #[.int .i64 0, .int .i64 (p : Int), .string ⟨#[]⟩, .int .i64 0, .int .i64 0, .int .i64 0] 38)) w.heap.size 38 #[.int .i64 0, .int .i64 0, .string ⟨#[]⟩, .int .i64 0, .int .i64 0, .int .i64 0] := (Blk.new w _ _).alloc _
  have hb2 : Blk ((w.alloc (.cells #[.int .i64 0, .int .i64 0, .string ⟨#[]⟩, .int .i64 0, .int .i64 0, .int .i64 0] 38)).alloc (.cells #[.int .i64 0, .int .i64 (p : Int), .string ⟨#[]⟩, .int .i64 0, .int .i64 0, .int .i64 0] 38)) (w.heap.size + 1) 38 #[.int .i64 0, .int .i64 (p : Int), .string ⟨#[]⟩, .int .i64 0, .int .i64 0, .int .i64 0] := Blk.new' _ _ _ (by simp)
  have HF := fig_lit 64 false rfl
  go_enter Tryz.func19, Tryz.ntmps19
  go_wp2_with fail
  refine (HF.out _).mono ?_
  rintro _ _ ⟨rfl, rfl⟩
  go_wp2_with (first | (refine wpList_load_blk hb2 rfl _ _ (by rfl) (by rfl) (by (repeat (first | (with_reducible exact hb2) | (with_reducible refine Blk.alloc ?_ _) | (with_reducible refine Blk.drew ?_) | (with_reducible refine Blk.far ?_ (by first | (simp; done) | (simp; omega)) _) | (with_reducible refine Blk.turn ?_ (by with_reducible assumption) (by omega))))) _ Tryz.underlying38 rfl (by kernel_rfl) ?_) | (refine wpList_store_blk hb1 rfl _ _ _ (by rfl) _ (by rfl) (by rfl) (by (repeat (first | (with_reducible exact hb1) | (with_reducible refine Blk.alloc ?_ _) | (with_reducible refine Blk.drew ?_) | (with_reducible refine Blk.far ?_ (by first | (simp; done) | (simp; omega)) _) | (with_reducible refine Blk.turn ?_ (by with_reducible assumption) (by omega))))) (by rfl) (by kernel_rfl) (by simp [Value.oneCell']) ?_; intro wt hb1n ht))
  refine ret_blk3 rfl hb1n rfl Tryz.underlying38 rfl (by kernel_rfl) rfl ?_
  exact ⟨rfl, by (repeat' (first | (with_reducible exact Below.refl _ _) | (with_reducible assumption) | (with_reducible refine balloc ?_ _) | (with_reducible refine Below.drew ?_) | (with_reducible refine bset ?_ ?_ _) | (with_reducible refine bstep ?_ (by with_reducible assumption)) | (with_reducible refine bturn ?_ (by with_reducible assumption) ?_) | go_size))⟩

set_option maxHeartbeats 8000000 in
set_option maxRecDepth 100000 in
theorem rone_date_stop (s : ByteArray) (p : Nat) (hp : p < s.size) (hs : s.size ≤ 4000000) (w : World) (hv : (((s[p]'hp).toNat : Nat) : Int) = 64) (p1 : Nat) (w4 : (p : Int) + 1 = (p1 : Int)) (w5 : IntKind.i64.wrap (p1 : Int) = (p1 : Int)) (h1n : p1 < s.size) (h1 : ¬ (s.size : Int) ≤ (p1 : Int)) (h2 : (((s[p1]'h1n).toNat : Nat) : Int) = 34) (x : ByteArray) (st : Int) (d de : Int) (p13 : Int) (w6 : IntKind.i64.wrap ((p : Int) + 13) = p13) (h3 : (st != p13) = true) (HQ : Hid (∀ W, Calls Tryz.prog 39 #[.string s, .int .i64 (p1 : Int)] W fun e w' => e = .returned (.tuple #[.string x, .int .i64 st]) ∧ W = w')) (HD : Hid (∀ W, Calls Tryz.prog 41 #[.string x] W fun e w' => e = .returned (.tuple #[.int .i64 d, .int .i64 de]) ∧ Below W.heap.size W w')) :
    Calls Tryz.prog 19 #[.string s, .int .i64 (p : Int)] w fun e w' => e = .returned (.tuple #[.agg #[.int .i64 0, .int .i64 (p : Int), .string ⟨#[]⟩, .int .i64 0, .int .i64 0, .int .i64 0], .int .i64 0, .int .i64 5]) ∧ Below w.heap.size w w' := by
  have hb1 : Blk ((w.alloc (.cells #[.int .i64 0, .int .i64 0, .string ⟨#[]⟩, .int .i64 0, .int .i64 0, .int .i64 0] 38)).alloc (.cells #[.int .i64 0, .int .i64 (p : Int), .string ⟨#[]⟩, .int .i64 0, .int .i64 0, .int .i64 0] 38)) w.heap.size 38 #[.int .i64 0, .int .i64 0, .string ⟨#[]⟩, .int .i64 0, .int .i64 0, .int .i64 0] := (Blk.new w _ _).alloc _
  have hb2 : Blk ((w.alloc (.cells #[.int .i64 0, .int .i64 0, .string ⟨#[]⟩, .int .i64 0, .int .i64 0, .int .i64 0] 38)).alloc (.cells #[.int .i64 0, .int .i64 (p : Int), .string ⟨#[]⟩, .int .i64 0, .int .i64 0, .int .i64 0] 38)) (w.heap.size + 1) 38 #[.int .i64 0, .int .i64 (p : Int), .string ⟨#[]⟩, .int .i64 0, .int .i64 0, .int .i64 0] := Blk.new' _ _ _ (by simp)
  have HF := fig_lit 64 false rfl
  go_enter Tryz.func19, Tryz.ntmps19
  go_wp2_with fail
  refine (HF.out _).mono ?_
  rintro _ _ ⟨rfl, rfl⟩
  go_wp2_with fail
  refine (HQ.out _).mono ?_
  rintro _ _ ⟨rfl, rfl⟩
  go_wp2_with fail
  refine (HD.out _).mono ?_
  rintro _ w1 ⟨rfl, hw1⟩
  replace hb1 := hb1.step hw1
  replace hb2 := hb2.step hw1
  go_wp2_with (first | (refine wpList_load_blk hb2 rfl _ _ (by rfl) (by rfl) (by (repeat (first | (with_reducible exact hb2) | (with_reducible refine Blk.alloc ?_ _) | (with_reducible refine Blk.drew ?_) | (with_reducible refine Blk.far ?_ (by first | (simp; done) | (simp; omega)) _) | (with_reducible refine Blk.turn ?_ (by with_reducible assumption) (by omega))))) _ Tryz.underlying38 rfl (by kernel_rfl) ?_) | (refine wpList_store_blk hb1 rfl _ _ _ (by rfl) _ (by rfl) (by rfl) (by (repeat (first | (with_reducible exact hb1) | (with_reducible refine Blk.alloc ?_ _) | (with_reducible refine Blk.drew ?_) | (with_reducible refine Blk.far ?_ (by first | (simp; done) | (simp; omega)) _) | (with_reducible refine Blk.turn ?_ (by with_reducible assumption) (by omega))))) (by rfl) (by kernel_rfl) (by simp [Value.oneCell']) ?_; intro wt hb1n ht))
  refine ret_blk3 rfl hb1n rfl Tryz.underlying38 rfl (by kernel_rfl) rfl ?_
  exact ⟨rfl, by (repeat' (first | (with_reducible exact Below.refl _ _) | (with_reducible assumption) | (with_reducible refine balloc ?_ _) | (with_reducible refine Below.drew ?_) | (with_reducible refine bset ?_ ?_ _) | (with_reducible refine bstep ?_ (by with_reducible assumption)) | (with_reducible refine bturn ?_ (by with_reducible assumption) ?_) | go_size))⟩

set_option maxHeartbeats 8000000 in
set_option maxRecDepth 100000 in
theorem rone_date_bad (s : ByteArray) (p : Nat) (hp : p < s.size) (hs : s.size ≤ 4000000) (w : World) (hv : (((s[p]'hp).toNat : Nat) : Int) = 64) (p1 : Nat) (w4 : (p : Int) + 1 = (p1 : Int)) (w5 : IntKind.i64.wrap (p1 : Int) = (p1 : Int)) (h1n : p1 < s.size) (h1 : ¬ (s.size : Int) ≤ (p1 : Int)) (h2 : (((s[p1]'h1n).toNat : Nat) : Int) = 34) (x : ByteArray) (st : Int) (d de : Int) (p13 : Int) (w6 : IntKind.i64.wrap ((p : Int) + 13) = p13) (h3 : (st != p13) = false) (h4 : (de != 0) = true) (HQ : Hid (∀ W, Calls Tryz.prog 39 #[.string s, .int .i64 (p1 : Int)] W fun e w' => e = .returned (.tuple #[.string x, .int .i64 st]) ∧ W = w')) (HD : Hid (∀ W, Calls Tryz.prog 41 #[.string x] W fun e w' => e = .returned (.tuple #[.int .i64 d, .int .i64 de]) ∧ Below W.heap.size W w')) :
    Calls Tryz.prog 19 #[.string s, .int .i64 (p : Int)] w fun e w' => e = .returned (.tuple #[.agg #[.int .i64 0, .int .i64 (p : Int), .string ⟨#[]⟩, .int .i64 0, .int .i64 0, .int .i64 0], .int .i64 0, .int .i64 5]) ∧ Below w.heap.size w w' := by
  have hb1 : Blk ((w.alloc (.cells #[.int .i64 0, .int .i64 0, .string ⟨#[]⟩, .int .i64 0, .int .i64 0, .int .i64 0] 38)).alloc (.cells #[.int .i64 0, .int .i64 (p : Int), .string ⟨#[]⟩, .int .i64 0, .int .i64 0, .int .i64 0] 38)) w.heap.size 38 #[.int .i64 0, .int .i64 0, .string ⟨#[]⟩, .int .i64 0, .int .i64 0, .int .i64 0] := (Blk.new w _ _).alloc _
  have hb2 : Blk ((w.alloc (.cells #[.int .i64 0, .int .i64 0, .string ⟨#[]⟩, .int .i64 0, .int .i64 0, .int .i64 0] 38)).alloc (.cells #[.int .i64 0, .int .i64 (p : Int), .string ⟨#[]⟩, .int .i64 0, .int .i64 0, .int .i64 0] 38)) (w.heap.size + 1) 38 #[.int .i64 0, .int .i64 (p : Int), .string ⟨#[]⟩, .int .i64 0, .int .i64 0, .int .i64 0] := Blk.new' _ _ _ (by simp)
  have HF := fig_lit 64 false rfl
  go_enter Tryz.func19, Tryz.ntmps19
  go_wp2_with fail
  refine (HF.out _).mono ?_
  rintro _ _ ⟨rfl, rfl⟩
  go_wp2_with fail
  refine (HQ.out _).mono ?_
  rintro _ _ ⟨rfl, rfl⟩
  go_wp2_with fail
  refine (HD.out _).mono ?_
  rintro _ w1 ⟨rfl, hw1⟩
  replace hb1 := hb1.step hw1
  replace hb2 := hb2.step hw1
  go_wp2_with (first | (refine wpList_load_blk hb2 rfl _ _ (by rfl) (by rfl) (by (repeat (first | (with_reducible exact hb2) | (with_reducible refine Blk.alloc ?_ _) | (with_reducible refine Blk.drew ?_) | (with_reducible refine Blk.far ?_ (by first | (simp; done) | (simp; omega)) _) | (with_reducible refine Blk.turn ?_ (by with_reducible assumption) (by omega))))) _ Tryz.underlying38 rfl (by kernel_rfl) ?_) | (refine wpList_store_blk hb1 rfl _ _ _ (by rfl) _ (by rfl) (by rfl) (by (repeat (first | (with_reducible exact hb1) | (with_reducible refine Blk.alloc ?_ _) | (with_reducible refine Blk.drew ?_) | (with_reducible refine Blk.far ?_ (by first | (simp; done) | (simp; omega)) _) | (with_reducible refine Blk.turn ?_ (by with_reducible assumption) (by omega))))) (by rfl) (by kernel_rfl) (by simp [Value.oneCell']) ?_; intro wt hb1n ht))
  refine ret_blk3 rfl hb1n rfl Tryz.underlying38 rfl (by kernel_rfl) rfl ?_
  exact ⟨rfl, by (repeat' (first | (with_reducible exact Below.refl _ _) | (with_reducible assumption) | (with_reducible refine balloc ?_ _) | (with_reducible refine Below.drew ?_) | (with_reducible refine bset ?_ ?_ _) | (with_reducible refine bstep ?_ (by with_reducible assumption)) | (with_reducible refine bturn ?_ (by with_reducible assumption) ?_) | go_size))⟩

set_option maxHeartbeats 8000000 in
set_option maxRecDepth 100000 in
theorem rone_date_ok (s : ByteArray) (p : Nat) (hp : p < s.size) (hs : s.size ≤ 4000000) (w : World) (hv : (((s[p]'hp).toNat : Nat) : Int) = 64) (p1 : Nat) (w4 : (p : Int) + 1 = (p1 : Int)) (w5 : IntKind.i64.wrap (p1 : Int) = (p1 : Int)) (h1n : p1 < s.size) (h1 : ¬ (s.size : Int) ≤ (p1 : Int)) (h2 : (((s[p1]'h1n).toNat : Nat) : Int) = 34) (x : ByteArray) (st : Int) (d : Int) (p13 : Int) (w6 : IntKind.i64.wrap ((p : Int) + 13) = p13) (h3 : (st != p13) = false) (HQ : Hid (∀ W, Calls Tryz.prog 39 #[.string s, .int .i64 (p1 : Int)] W fun e w' => e = .returned (.tuple #[.string x, .int .i64 st]) ∧ W = w')) (HD : Hid (∀ W, Calls Tryz.prog 41 #[.string x] W fun e w' => e = .returned (.tuple #[.int .i64 d, .int .i64 0]) ∧ Below W.heap.size W w')) :
    Calls Tryz.prog 19 #[.string s, .int .i64 (p : Int)] w fun e w' => e = .returned (.tuple #[.agg #[.int .i64 3, .int .i64 (p : Int), .string ⟨#[]⟩, .int .i64 0, .int .i64 0, .int .i64 d], .int .i64 st, .int .i64 0]) ∧ Below w.heap.size w w' := by
  have hb1 : Blk ((w.alloc (.cells #[.int .i64 0, .int .i64 0, .string ⟨#[]⟩, .int .i64 0, .int .i64 0, .int .i64 0] 38)).alloc (.cells #[.int .i64 0, .int .i64 (p : Int), .string ⟨#[]⟩, .int .i64 0, .int .i64 0, .int .i64 0] 38)) w.heap.size 38 #[.int .i64 0, .int .i64 0, .string ⟨#[]⟩, .int .i64 0, .int .i64 0, .int .i64 0] := (Blk.new w _ _).alloc _
  have hb2 : Blk ((w.alloc (.cells #[.int .i64 0, .int .i64 0, .string ⟨#[]⟩, .int .i64 0, .int .i64 0, .int .i64 0] 38)).alloc (.cells #[.int .i64 0, .int .i64 (p : Int), .string ⟨#[]⟩, .int .i64 0, .int .i64 0, .int .i64 0] 38)) (w.heap.size + 1) 38 #[.int .i64 0, .int .i64 (p : Int), .string ⟨#[]⟩, .int .i64 0, .int .i64 0, .int .i64 0] := Blk.new' _ _ _ (by simp)
  have HF := fig_lit 64 false rfl
  go_enter Tryz.func19, Tryz.ntmps19
  go_wp2_with fail
  refine (HF.out _).mono ?_
  rintro _ _ ⟨rfl, rfl⟩
  go_wp2_with fail
  refine (HQ.out _).mono ?_
  rintro _ _ ⟨rfl, rfl⟩
  go_wp2_with fail
  refine (HD.out _).mono ?_
  rintro _ w1 ⟨rfl, hw1⟩
  replace hb1 := hb1.step hw1
  replace hb2 := hb2.step hw1
  have hlt := hb2.lt; have hllt := lts hlt; have qt0 := hb2.cell 0; have qt1 := hb2.cell 1; have qt2 := hb2.cell 2; have qt3 := hb2.cell 3; have qt4 := hb2.cell 4; have qt5 := hb2.cell 5; simp at qt0 qt1 qt2 qt3 qt4 qt5; have zt0 := hb2.frozen 0; have zt1 := hb2.frozen 1; have zt2 := hb2.frozen 2; have zt3 := hb2.frozen 3; have zt4 := hb2.frozen 4; have zt5 := hb2.frozen 5; have Hhb2 := Lib.hid hb2; clear hb2
  go_upto_region 27 with fail
  have k2 : Blk (((w1.setCell ⟨w.heap.size + 1, 0, none⟩ (.int .i64 3)).setCell ⟨w.heap.size + 1, 5, none⟩ (.int .i64 d))) (w.heap.size + 1) 38 #[.int .i64 3, .int .i64 (p : Int), .string ⟨#[]⟩, .int .i64 0, .int .i64 0, .int .i64 d] := ((Hhb2.out.setL 0 _ _ rfl).setL 5 _ _ rfl)
  have k1' : Blk (((w1.setCell ⟨w.heap.size + 1, 0, none⟩ (.int .i64 3)).setCell ⟨w.heap.size + 1, 5, none⟩ (.int .i64 d))) w.heap.size 38 #[.int .i64 0, .int .i64 0, .string ⟨#[]⟩, .int .i64 0, .int .i64 0, .int .i64 0] := ((hb1.far (by simp) _).far (by simp) _)
  clear hlt qt0 qt1 qt2 qt3 qt4 qt5 zt0 zt1 zt2 zt3 zt4 zt5
  go_wp2_with (first | (refine wpList_load_blk k2 rfl _ _ (by rfl) (by rfl) (by (repeat (first | (with_reducible exact k2) | (with_reducible refine Blk.alloc ?_ _) | (with_reducible refine Blk.drew ?_) | (with_reducible refine Blk.far ?_ (by first | (simp; done) | (simp; omega)) _) | (with_reducible refine Blk.turn ?_ (by with_reducible assumption) (by omega))))) _ Tryz.underlying38 rfl (by kernel_rfl) ?_) | (refine wpList_store_blk k1' rfl _ _ _ (by rfl) _ (by rfl) (by rfl) (by (repeat (first | (with_reducible exact k1') | (with_reducible refine Blk.alloc ?_ _) | (with_reducible refine Blk.drew ?_) | (with_reducible refine Blk.far ?_ (by first | (simp; done) | (simp; omega)) _) | (with_reducible refine Blk.turn ?_ (by with_reducible assumption) (by omega))))) (by rfl) (by kernel_rfl) (by simp [Value.oneCell']) ?_; intro wt k1'n ht))
  refine ret_blk3 rfl k1'n rfl Tryz.underlying38 rfl (by kernel_rfl) rfl ?_
  exact ⟨rfl, by (repeat' (first | (with_reducible exact Below.refl _ _) | (with_reducible assumption) | (with_reducible refine balloc ?_ _) | (with_reducible refine Below.drew ?_) | (with_reducible refine bset ?_ ?_ _) | (with_reducible refine bstep ?_ (by with_reducible assumption)) | (with_reducible refine bturn ?_ (by with_reducible assumption) ?_) | go_size))⟩

end Go.Proofs.YtambpkkllgppdaaGreatDoor
