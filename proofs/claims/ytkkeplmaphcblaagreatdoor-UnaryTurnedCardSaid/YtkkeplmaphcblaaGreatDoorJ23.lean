/- The walk of unary.cell's ranked. Printed by genrank.py. What the walks of unary.cell lean on: a test's cells. The walk of unary.one: may it be a single test? The walk of unary.cell's list. The walks of unary.Sound and of what it asks of each test. Tests that are written are read as they were: the plain law. What unary.Sound says, in plain words. The walk of value.Text at a sound value. The walk of unary.write at a sound test. Printed by gunj.py. Whether a text is a minus alone, however it is trimmed: plainly. The walk of the reference's Same of tests (layer 9), at tests that are one. -/
import Derived.Test.YtkkeplmaphcblaaGreatDoorJ22
import Derived.Test.YtkkeplmaphcblaaGreatDoorJ3
import Derived.Test.YtkkeplmaphcblaaGreatDoorJ6
import Derived.OwnWalk
import Derived.Test.YtkkeplmaphcblaaGreatDoorJ18
import Derived.Test.YtkkeplmaphcblaaGreatDoorJ19
namespace Go.Proofs.YtkkeplmaphcblaaGreatDoor
open Go.RowKit

theorem PB.drewN {w : World} {b : Nat} {A : Option Addr} {c : Nat} {p : PS} (h : PB w b A c p) (n : Nat) : PB (w.drewN n) b A c p := ⟨h.blk.drewN n, h.tm, h.nb, h.le, h.big⟩
theorem cellsV_eq {v : Vl} {q : ByteArray} (h : bs v.t = q) : cellsV v = #[.int .i64 v.k, .int .i64 v.n, .int .i64 v.s, .string q, .int .i64 v.m] := by rw [← h]; rfl
set_option maxHeartbeats 8000000 in
set_option maxRecDepth 100000 in
theorem rank_any (b : Nat) (A : Option Addr) (c : Nat) (p : PS) (w : World) (h : PB w b A c p) (hok : ∀ t ∈ p.L, tkOK t) :
    Calls Tryz.prog 149 #[.agg #[.pointer (some ⟨b, 0, none⟩)]] w fun e w' => e = .returned (.agg (cellsV p.rank.1)) ∧ PB w' b A c p.rank.2 ∧ Gr b w w' := by
  have H := Lib.hid h
  have hlw := h.blk.lt
  have K1 := Lib.hid (fun W (h : PB W b A c p) => lit_any b A c p W h hok)
  obtain ⟨V, hV⟩ : ∃ V, p.lit.1 = V := ⟨_, rfl⟩
  obtain ⟨Q, hQ⟩ : ∃ Q, p.lit.2 = Q := ⟨_, rfl⟩
  have hRK : p.rank = if Q.e = 0 ∧ V.k ≠ 1 ∧ V.k ≠ 4 then (V, p.fail 5) else (V, Q) := by
    unfold PS.rank
    rw [hV, hQ, ← hV, ← hQ]
  have HL : Hid (p.L = Q.L) := Lib.hid (by rw [← hQ, lit_L])
  have KE := Lib.hid (error_any b A c Q)
  have KF := Lib.hid (fail_any b A c p 5)
  rw [hV, hQ] at K1
  obtain ⟨X, hX⟩ : ∃ X, (if Q.e = 0 ∧ V.k ≠ 1 ∧ V.k ≠ 4 then (V, p.fail 5) else (V, Q)) = X := ⟨_, rfl⟩
  rw [hRK, hX]
  have HX := Lib.hid hX
  clear h hok hV hQ hRK hX
  obtain ⟨vk, vn, vs, vt, vm⟩ := V
  obtain ⟨q, hq⟩ : ∃ q, bs vt = q := ⟨_, rfl⟩
  have hcv : cellsV ⟨vk, vn, vs, vt, vm⟩ = #[.int .i64 vk, .int .i64 vn, .int .i64 vs, .string q, .int .i64 vm] := cellsV_eq hq
  rw [hcv] at K1
  have HCV := Lib.hid hcv
  have HQ := Lib.hid hq
  clear hq hcv
  go_enter Tryz.func149, Tryz.ntmps149
  go_upto_region 1 with fail
  have hb0 : Below w.heap.size w ((w.alloc (.cells #[.pointer (some ⟨b, 0, none⟩)] 87)).alloc (.cells #[.int .i64 0, .int .i64 0, .int .i64 0, .string ⟨#[]⟩, .int .i64 0] 25)) := by (repeat' (first | (with_reducible exact Below.refl _ _) | (with_reducible assumption) | (with_reducible refine balloc ?_ _) | (with_reducible refine Below.drew ?_) | (with_reducible refine bset ?_ ?_ _) | (with_reducible refine bstep ?_ (by with_reducible assumption)) | (with_reducible refine bturn ?_ (by with_reducible assumption) ?_) | go_size))
  have kb1 : Blk ((w.alloc (.cells #[.pointer (some ⟨b, 0, none⟩)] 87)).alloc (.cells #[.int .i64 0, .int .i64 0, .int .i64 0, .string ⟨#[]⟩, .int .i64 0] 25)) w.heap.size 87 #[.pointer (some ⟨b, 0, none⟩)] := (Blk.new _ _ _).alloc _
  have kr1 : Blk ((w.alloc (.cells #[.pointer (some ⟨b, 0, none⟩)] 87)).alloc (.cells #[.int .i64 0, .int .i64 0, .int .i64 0, .string ⟨#[]⟩, .int .i64 0] 25)) (w.heap.size + 1) 25 #[.int .i64 0, .int .i64 0, .int .i64 0, .string ⟨#[]⟩, .int .i64 0] := Blk.new' _ _ _ (by simp)
  generalize (w.alloc (.cells #[.pointer (some ⟨b, 0, none⟩)] 87)).alloc (.cells #[.int .i64 0, .int .i64 0, .int .i64 0, .string ⟨#[]⟩, .int .i64 0] 25) = w1 at *
  have HB1 := Lib.hid kb1
  have HP1 := Lib.hid (H.out.step hb0)
  have hp1 := HP1.out.blk
  have hz1 := hb0.size
  have hlp1 := hp1.lt
  have hlu := kb1.lt; have hllu := lts hlu; have qu0 := kb1.cell 0; simp at qu0; have zu0 := kb1.frozen 0; have Hkb1 := Lib.hid kb1; clear kb1
  have k4 : Blk (w1.alloc (.cells #[.slice none 0 0, .int .i64 0, .int .i64 0, .int .i64 0, .int .i64 0, .int .i64 0] 69)) w1.heap.size 69 #[.slice none 0 0, .int .i64 0, .int .i64 0, .int .i64 0, .int .i64 0, .int .i64 0] := Blk.new _ _ _
  go_upto_region 2 with (first | (refine wpList_load_blk hp1 rfl _ _ (by rfl) (by rfl) (by (repeat (first | (with_reducible exact hp1) | (with_reducible refine Blk.alloc ?_ _) | (with_reducible refine Blk.drew ?_) | (with_reducible refine Blk.far ?_ (by first | (simp; done) | (simp; omega)) _) | (with_reducible refine Blk.turn ?_ (by with_reducible assumption) (by omega))))) _ Tryz.underlying69 rfl (by kernel_rfl) ?_) | (refine wpList_store_blk k4 rfl _ _ _ (by rfl) _ (by rfl) (by rfl) (by (repeat (first | (with_reducible exact k4) | (with_reducible refine Blk.alloc ?_ _) | (with_reducible refine Blk.drew ?_) | (with_reducible refine Blk.far ?_ (by first | (simp; done) | (simp; omega)) _) | (with_reducible refine Blk.turn ?_ (by with_reducible assumption) (by omega))))) (by rfl) (by kernel_rfl) (by simp [Value.oneCell']) ?_; intro wt k4n ht))
  have hb4 : Below w1.heap.size w1 wt := bturn (balloc (Below.refl _ _) _) ht (Nat.le_refl _)
  have kb2 := HB1.out.step hb4
  have kr2 := kr1.step hb4
  have h2 := HP1.out.step hb4
  have hlw2 : w1.heap.size < wt.heap.size := k4n.lt
  clear qu0 zu0 hlu hllu hp1 k4 kr1
  have HB2 := Lib.hid kb2
  have hlu := kb2.lt; have hllu := lts hlu; have qu0 := kb2.cell 0; simp at qu0; have zu0 := kb2.frozen 0; have Hkb2 := Lib.hid kb2; clear kb2
  go_wp2_with fail
  refine (K1.out _ h2).mono ?_
  rintro e w3 ⟨rfl, h3, g3⟩
  have k43 := k4n.gr g3 (by omega)
  have kr3 := kr2.gr g3 (by omega)
  have kb3 := HB2.out.gr g3 (by omega)
  have hz3 := g3.size
  have gall : Gr b w w3 := ((Gr.of hb0).bstep hb4).trans g3
  clear qu0 zu0 hlu hllu k4n kr2 h2
  have hr3 := kr3.lt
  have HP3 := Lib.hid h3
  have k5 : Blk (w3.alloc (.cells #[.int .i64 0, .int .i64 0, .int .i64 0, .string ⟨#[]⟩, .int .i64 0] 25)) w3.heap.size 25 #[.int .i64 0, .int .i64 0, .int .i64 0, .string ⟨#[]⟩, .int .i64 0] := Blk.new _ _ _
  go_upto_region 3 with (first | (refine wpList_store_blk k5 rfl _ _ _ (by rfl) _ (by rfl) (by rfl) (by (repeat (first | (with_reducible exact k5) | (with_reducible refine Blk.alloc ?_ _) | (with_reducible refine Blk.drew ?_) | (with_reducible refine Blk.far ?_ (by first | (simp; done) | (simp; omega)) _) | (with_reducible refine Blk.turn ?_ (by with_reducible assumption) (by omega))))) (by rfl) (by kernel_rfl) (by simp [Value.oneCell']) ?_; intro wt k5n ht))
  have hb5 : Below w3.heap.size w3 wt := bturn (balloc (Below.refl _ _) _) ht (Nat.le_refl _)
  have kb4 := kb3.step hb5
  have kr4 := kr3.step hb5
  have k44 := k43.step hb5
  have h4 := HP3.out.step hb5
  have hl5 := k5n.lt
  have HB4 := Lib.hid kb4
  clear h3 kb3 kr3 k43 k5 hb0
  have hlu := kb4.lt; have hllu := lts hlu; have qu0 := kb4.cell 0; simp at qu0; have zu0 := kb4.frozen 0; have Hkb4 := Lib.hid kb4; clear kb4
  go_wp2_with fail
  refine (KE.out _ h4).mono ?_
  rintro e w6 ⟨rfl, hb6⟩
  have k5v := k5n.step hb6
  have kr6 := kr4.step hb6
  have k46 := k44.step hb6
  have kb6 := HB4.out.step hb6
  have hp6 := Lib.hid (h4.step hb6)
  have g6 : Gr b w w6 := (gall.bstep hb5).bstep hb6
  have HB6 := Lib.hid kb6
  have HV6 := Lib.hid k5v
  have hl6 := hp6.out.blk.lt
  have hlv6 := k5v.lt
  have hlr6 := kr6.lt
  clear qu0 zu0 hlu hllu h4 kr4 k44 k5n kb6
  go_upto_region 4 with fail
  by_cases he : Q.e = 0
  · by_cases hk1 : vk = 1
    · have hs : ((⟨vk, vn, vs, vt, vm⟩ : Vl), Q) = X := by rw [← HX.out, if_neg (by rintro ⟨_, h1, _⟩; exact h1 hk1)]
      subst hs
      have hkb : (vk != 1) = false := by simpa using hk1
      have hlv := k5v.lt; have hllv := lts hlv; have qv0 := k5v.cell 0; have qv1 := k5v.cell 1; have qv2 := k5v.cell 2; have qv3 := k5v.cell 3; have qv4 := k5v.cell 4; simp at qv0 qv1 qv2 qv3 qv4; have zv0 := k5v.frozen 0; have zv1 := k5v.frozen 1; have zv2 := k5v.frozen 2; have zv3 := k5v.frozen 3; have zv4 := k5v.frozen 4; have Hk5v := Lib.hid k5v; clear k5v
      have k5v := HV6.out
      have kv5 := HV6.out
      have kr5 := kr6
      have hp5 := hp6
      have g5 := g6
      go_wp2_with (first | (refine wpList_load_blk kv5 rfl _ _ (by rfl) (by rfl) (by (repeat (first | (with_reducible exact kv5) | (with_reducible refine Blk.alloc ?_ _) | (with_reducible refine Blk.drew ?_) | (with_reducible refine Blk.far ?_ (by first | (simp; done) | (simp; omega)) _) | (with_reducible refine Blk.turn ?_ (by with_reducible assumption) (by omega))))) _ Tryz.underlying25 rfl (by kernel_rfl) ?_) | (refine wpList_store_blk kr5 rfl _ _ _ (by rfl) _ (by rfl) (by rfl) (by (repeat (first | (with_reducible exact kr5) | (with_reducible refine Blk.alloc ?_ _) | (with_reducible refine Blk.drew ?_) | (with_reducible refine Blk.far ?_ (by first | (simp; done) | (simp; omega)) _) | (with_reducible refine Blk.turn ?_ (by with_reducible assumption) (by omega))))) (by rfl) (by kernel_rfl) (by simp [Value.oneCell']) ?_; intro wt kr5n ht))
      refine ret_blk rfl kr5n rfl Tryz.underlying25 rfl (by kernel_rfl) rfl ?_
      exact ⟨by first | rw [HCV.out] | (rw [← HQ.out]; simp [cellsV, *]), H.out.turnF HL.out hp5.out ht (by omega), Gr.turnFar g5 ht (by omega)⟩
    · by_cases hk4 : vk = 4
      · have hs : ((⟨vk, vn, vs, vt, vm⟩ : Vl), Q) = X := by rw [← HX.out, if_neg (by rintro ⟨_, _, h1⟩; exact h1 hk4)]
        subst hs
        have hkb : (vk != 1) = true := by simpa using hk1
        have hkc : (vk != 4) = false := by simpa using hk4
        have hlv := k5v.lt; have hllv := lts hlv; have qv0 := k5v.cell 0; have qv1 := k5v.cell 1; have qv2 := k5v.cell 2; have qv3 := k5v.cell 3; have qv4 := k5v.cell 4; simp at qv0 qv1 qv2 qv3 qv4; have zv0 := k5v.frozen 0; have zv1 := k5v.frozen 1; have zv2 := k5v.frozen 2; have zv3 := k5v.frozen 3; have zv4 := k5v.frozen 4; have Hk5v := Lib.hid k5v; clear k5v
        have k5v := HV6.out
        have kv5 := HV6.out
        have kr5 := kr6
        have hp5 := hp6
        have g5 := g6
        go_wp2_with (first | (refine wpList_load_blk kv5 rfl _ _ (by rfl) (by rfl) (by (repeat (first | (with_reducible exact kv5) | (with_reducible refine Blk.alloc ?_ _) | (with_reducible refine Blk.drew ?_) | (with_reducible refine Blk.far ?_ (by first | (simp; done) | (simp; omega)) _) | (with_reducible refine Blk.turn ?_ (by with_reducible assumption) (by omega))))) _ Tryz.underlying25 rfl (by kernel_rfl) ?_) | (refine wpList_store_blk kr5 rfl _ _ _ (by rfl) _ (by rfl) (by rfl) (by (repeat (first | (with_reducible exact kr5) | (with_reducible refine Blk.alloc ?_ _) | (with_reducible refine Blk.drew ?_) | (with_reducible refine Blk.far ?_ (by first | (simp; done) | (simp; omega)) _) | (with_reducible refine Blk.turn ?_ (by with_reducible assumption) (by omega))))) (by rfl) (by kernel_rfl) (by simp [Value.oneCell']) ?_; intro wt kr5n ht))
        refine ret_blk rfl kr5n rfl Tryz.underlying25 rfl (by kernel_rfl) rfl ?_
        exact ⟨by first | rw [HCV.out] | (rw [← HQ.out]; simp [cellsV, *]), H.out.turnF HL.out hp5.out ht (by omega), Gr.turnFar g5 ht (by omega)⟩
      · have hs : ((⟨vk, vn, vs, vt, vm⟩ : Vl), p.fail 5) = X := by rw [← HX.out, if_pos ⟨he, hk1, hk4⟩]
        subst hs
        have hkb : (vk != 1) = true := by simpa using hk1
        have hkc : (vk != 4) = true := by simpa using hk4
        have KR6 := Lib.hid kr6
        have kb6 := HB6.out
        have hpb := hp6.out.blk
        have hlu := kb6.lt; have hllu := lts hlu; have qu0 := kb6.cell 0; simp at qu0; have zu0 := kb6.frozen 0; have Hkb6 := Lib.hid kb6; clear kb6
        have hlv := k5v.lt; have hllv := lts hlv; have qv0 := k5v.cell 0; have qv1 := k5v.cell 1; have qv2 := k5v.cell 2; have qv3 := k5v.cell 3; have qv4 := k5v.cell 4; simp at qv0 qv1 qv2 qv3 qv4; have zv0 := k5v.frozen 0; have zv1 := k5v.frozen 1; have zv2 := k5v.frozen 2; have zv3 := k5v.frozen 3; have zv4 := k5v.frozen 4; have Hk5v := Lib.hid k5v; clear k5v
        go_upto_region 6 with (first | (refine wpList_load_blk k46 rfl _ _ (by rfl) (by rfl) (by (repeat (first | (with_reducible exact k46) | (with_reducible refine Blk.alloc ?_ _) | (with_reducible refine Blk.drew ?_) | (with_reducible refine Blk.far ?_ (by first | (simp; done) | (simp; omega)) _) | (with_reducible refine Blk.turn ?_ (by with_reducible assumption) (by omega))))) _ Tryz.underlying69 rfl (by kernel_rfl) ?_) | (refine wpList_store_blk hpb rfl _ _ _ (by rfl) _ (by rfl) (by rfl) (by (repeat (first | (with_reducible exact hpb) | (with_reducible refine Blk.alloc ?_ _) | (with_reducible refine Blk.drew ?_) | (with_reducible refine Blk.far ?_ (by first | (simp; done) | (simp; omega)) _) | (with_reducible refine Blk.turn ?_ (by with_reducible assumption) (by omega))))) (by rfl) (by kernel_rfl) (by simp [Value.oneCell']) ?_; intro wt hpbn ht))
        have h7 : PB wt b A c p := ⟨hpbn, by rw [HL.out]; exact hp6.out.tm.gr ((Gr.refl b _).turn ht) hp6.out.nb, H.out.nb, H.out.le, H.out.big⟩
        have k7 := HV6.out.turn ht (by omega)
        have kr7 := KR6.out.turn ht (by omega)
        have kb7 := HB6.out.turn ht (by omega)
        have g7 : Gr b w wt := g6.turn ht
        have hz7 := g7.size
        have hl7 := k7.lt
        clear qu0 zu0 hlu hllu qv0 qv1 qv2 qv3 qv4 zv0 zv1 zv2 zv3 zv4 hlv hllv
        have hlu := kb7.lt; have hllu := lts hlu; have qu0 := kb7.cell 0; simp at qu0; have zu0 := kb7.frozen 0; have Hkb7 := Lib.hid kb7; clear kb7
        go_wp2_with fail
        refine (KF.out _ h7).mono ?_
        rintro e w8 ⟨rfl, h8, g8⟩
        have k8 := k7.gr g8 (by omega)
        have kr8 := kr7.gr g8 (by omega)
        go_wp2_with (first | (refine wpList_load_blk k8 rfl _ _ (by rfl) (by rfl) (by (repeat (first | (with_reducible exact k8) | (with_reducible refine Blk.alloc ?_ _) | (with_reducible refine Blk.drew ?_) | (with_reducible refine Blk.far ?_ (by first | (simp; done) | (simp; omega)) _) | (with_reducible refine Blk.turn ?_ (by with_reducible assumption) (by omega))))) _ Tryz.underlying25 rfl (by kernel_rfl) ?_) | (refine wpList_store_blk kr8 rfl _ _ _ (by rfl) _ (by rfl) (by rfl) (by (repeat (first | (with_reducible exact kr8) | (with_reducible refine Blk.alloc ?_ _) | (with_reducible refine Blk.drew ?_) | (with_reducible refine Blk.far ?_ (by first | (simp; done) | (simp; omega)) _) | (with_reducible refine Blk.turn ?_ (by with_reducible assumption) (by omega))))) (by rfl) (by kernel_rfl) (by simp [Value.oneCell']) ?_; intro wt kr8n ht))
        refine ret_blk rfl kr8n rfl Tryz.underlying25 rfl (by kernel_rfl) rfl ?_
        exact ⟨by rw [HCV.out], H.out.turnF (by rw [fail_L]) h8 ht (by omega), Gr.turnFar (g7.trans g8) ht (by omega)⟩
  · have hs : ((⟨vk, vn, vs, vt, vm⟩ : Vl), Q) = X := by rw [← HX.out, if_neg (by rintro ⟨h1, _⟩; exact he h1)]
    subst hs
    have heb : (Q.e == 0) = false := by simpa using he
    have k5v := HV6.out
    have kv5 := HV6.out
    have kr5 := kr6
    have hp5 := hp6
    have g5 := g6
    go_wp2_with (first | (refine wpList_load_blk kv5 rfl _ _ (by rfl) (by rfl) (by (repeat (first | (with_reducible exact kv5) | (with_reducible refine Blk.alloc ?_ _) | (with_reducible refine Blk.drew ?_) | (with_reducible refine Blk.far ?_ (by first | (simp; done) | (simp; omega)) _) | (with_reducible refine Blk.turn ?_ (by with_reducible assumption) (by omega))))) _ Tryz.underlying25 rfl (by kernel_rfl) ?_) | (refine wpList_store_blk kr5 rfl _ _ _ (by rfl) _ (by rfl) (by rfl) (by (repeat (first | (with_reducible exact kr5) | (with_reducible refine Blk.alloc ?_ _) | (with_reducible refine Blk.drew ?_) | (with_reducible refine Blk.far ?_ (by first | (simp; done) | (simp; omega)) _) | (with_reducible refine Blk.turn ?_ (by with_reducible assumption) (by omega))))) (by rfl) (by kernel_rfl) (by simp [Value.oneCell']) ?_; intro wt kr5n ht))
    refine ret_blk rfl kr5n rfl Tryz.underlying25 rfl (by kernel_rfl) rfl ?_
    exact ⟨by first | rw [HCV.out] | (rw [← HQ.out]; simp [cellsV, *]), H.out.turnF HL.out hp5.out ht (by omega), Gr.turnFar g5 ht (by omega)⟩
end Go.Proofs.YtkkeplmaphcblaaGreatDoor

namespace Go.Proofs.YtkkeplmaphcblaaGreatDoor
open Go.RowKit Go.Shelf

/-- A test's cells. -/
def cellsTs (t : Tst) : Array Value := #[.int .i64 t.k, .int .i64 t.lo.k, .int .i64 t.lo.n, .int .i64 t.lo.s, .string (bs t.lo.t), .int .i64 t.lo.m, .int .i64 t.hi.k, .int .i64 t.hi.n, .int .i64 t.hi.s, .string (bs t.hi.t), .int .i64 t.hi.m, .bool t.ol, .bool t.oh]
theorem SS.gr {b : Nat} {w w' : World} {g : Nat} {L : List Bs} (h : SS w g L) (k : Gr b w w') (hn : g ≠ b) : SS w' g L := fun i l hl => ((gcell k).1 g _ (block_lt_of_cell (h i l hl)) hn).trans (h i l hl)
theorem close_L (p : PS) : p.close.L = p.L := by unfold PS.close; split <;> first | rfl | exact fail_L _ _
end Go.Proofs.YtkkeplmaphcblaaGreatDoor

namespace Go.Proofs.YtkkeplmaphcblaaGreatDoor
open Go.RowKit Go.Shelf
attribute [local go_sem high] run_vl_eql run_vl_neq

def oneR (k : Int) (R sl sh q Z ol oh : Bool) : Bool := sl && sh && (if k = 6 then R && q else decide (1 ≤ k) && decide (k < 6) && (R || k == 1) && Z && !ol && !oh)
set_option maxHeartbeats 16000000 in
set_option maxRecDepth 100000 in
theorem one_walk (k lk ln ls lm xk xn xs xm : Int) (lq xq : ByteArray) (ol oh : Bool) (w : World) (sl sh R Z q : Bool) (hR : (lk == 1 || lk == 4) = R) (hZ : vlq xk xn xs xq xm 0 0 0 ⟨#[]⟩ 0 = Z) (hq : (xk == lk) = q)
    (KL : Hid (∀ W, Below w.heap.size w W → Calls Tryz.prog 48 #[.agg #[.int .i64 lk, .int .i64 ln, .int .i64 ls, .string lq, .int .i64 lm]] W fun e w' => e = .returned (.bool sl) ∧ Below W.heap.size W w'))
    (KH : Hid (∀ W, Below w.heap.size w W → Calls Tryz.prog 48 #[.agg #[.int .i64 xk, .int .i64 xn, .int .i64 xs, .string xq, .int .i64 xm]] W fun e w' => e = .returned (.bool sh) ∧ Below W.heap.size W w')) :
    Calls Tryz.prog 64 #[.agg #[.int .i64 k, .int .i64 lk, .int .i64 ln, .int .i64 ls, .string lq, .int .i64 lm, .int .i64 xk, .int .i64 xn, .int .i64 xs, .string xq, .int .i64 xm, .bool ol, .bool oh]] w fun e w' => e = .returned (.bool (oneR k R sl sh q Z ol oh)) ∧ Below w.heap.size w w' := by
  have HR := Lib.hid hR
  clear hR
  go_enter Tryz.func64, Tryz.ntmps64
  go_upto_region 1 with fail
  go_cut [3] (fun x wx => x = .bool R ∧ wx = w.alloc (.cells #[.int .i64 k, .int .i64 lk, .int .i64 ln, .int .i64 ls, .string lq, .int .i64 lm, .int .i64 xk, .int .i64 xn, .int .i64 xs, .string xq, .int .i64 xm, .bool ol, .bool oh] 82))
  case first =>
    by_cases h1 : lk = 1
    · subst h1
      go_wp2_with fail
      go_meet
      case rel => exact ⟨by rw [← HR.out]; rfl, rfl⟩
    · go_wp2_with fail
      go_meet
      case rel => exact ⟨by rw [← HR.out, beq_eq_false_iff_ne.2 h1]; first | done | rfl, rfl⟩
  case rest =>
    obtain ⟨rfl, rfl⟩ := hcut
    have k0 : Blk (w.alloc (.cells #[.int .i64 k, .int .i64 lk, .int .i64 ln, .int .i64 ls, .string lq, .int .i64 lm, .int .i64 xk, .int .i64 xn, .int .i64 xs, .string xq, .int .i64 xm, .bool ol, .bool oh] 82)) w.heap.size 82 #[.int .i64 k, .int .i64 lk, .int .i64 ln, .int .i64 ls, .string lq, .int .i64 lm, .int .i64 xk, .int .i64 xn, .int .i64 xs, .string xq, .int .i64 xm, .bool ol, .bool oh] := Blk.new _ _ _
    cases sl with
    | false =>
      go_wp2_with fail
      refine (KL.out _ (by (repeat' (first | (with_reducible exact Below.refl _ _) | (with_reducible assumption) | (with_reducible refine balloc ?_ _) | (with_reducible refine Below.drew ?_) | (with_reducible refine bset ?_ ?_ _) | (with_reducible refine bstep ?_ (by with_reducible assumption)) | (with_reducible refine bturn ?_ (by with_reducible assumption) ?_) | go_size)))).mono ?_
      rintro e w1 ⟨rfl, hb1⟩
      go_wp2_with fail
      go_returns
      exact ⟨by simp [oneR], by (repeat' (first | (with_reducible exact Below.refl _ _) | (with_reducible assumption) | (with_reducible refine balloc ?_ _) | (with_reducible refine Below.drew ?_) | (with_reducible refine bset ?_ ?_ _) | (with_reducible refine bstep ?_ (by with_reducible assumption)) | (with_reducible refine bturn ?_ (by with_reducible assumption) ?_) | go_size))⟩
    | true =>
      go_wp2_with fail
      refine (KL.out _ (by (repeat' (first | (with_reducible exact Below.refl _ _) | (with_reducible assumption) | (with_reducible refine balloc ?_ _) | (with_reducible refine Below.drew ?_) | (with_reducible refine bset ?_ ?_ _) | (with_reducible refine bstep ?_ (by with_reducible assumption)) | (with_reducible refine bturn ?_ (by with_reducible assumption) ?_) | go_size)))).mono ?_
      rintro e w1 ⟨rfl, hb1⟩
      have k1 := k0.step hb1
      have hb01 : Below w.heap.size w w1 := by (repeat' (first | (with_reducible exact Below.refl _ _) | (with_reducible assumption) | (with_reducible refine balloc ?_ _) | (with_reducible refine Below.drew ?_) | (with_reducible refine bset ?_ ?_ _) | (with_reducible refine bstep ?_ (by with_reducible assumption)) | (with_reducible refine bturn ?_ (by with_reducible assumption) ?_) | go_size))
      have K1 := Lib.hid k1
      clear k0 hb1
      have hlu := k1.lt; have hllu := lts hlu; have qu0 := k1.cell 0; have qu1 := k1.cell 1; have qu2 := k1.cell 2; have qu3 := k1.cell 3; have qu4 := k1.cell 4; have qu5 := k1.cell 5; have qu6 := k1.cell 6; have qu7 := k1.cell 7; have qu8 := k1.cell 8; have qu9 := k1.cell 9; have qu10 := k1.cell 10; have qu11 := k1.cell 11; have qu12 := k1.cell 12; simp at qu0 qu1 qu2 qu3 qu4 qu5 qu6 qu7 qu8 qu9 qu10 qu11 qu12; have zu0 := k1.frozen 0; have zu1 := k1.frozen 1; have zu2 := k1.frozen 2; have zu3 := k1.frozen 3; have zu4 := k1.frozen 4; have zu5 := k1.frozen 5; have zu6 := k1.frozen 6; have zu7 := k1.frozen 7; have zu8 := k1.frozen 8; have zu9 := k1.frozen 9; have zu10 := k1.frozen 10; have zu11 := k1.frozen 11; have zu12 := k1.frozen 12; have Hk1 := Lib.hid k1; clear k1
      go_wp2_with fail
      refine (KH.out _ (by (repeat' (first | (with_reducible exact Below.refl _ _) | (with_reducible assumption) | (with_reducible refine balloc ?_ _) | (with_reducible refine Below.drew ?_) | (with_reducible refine bset ?_ ?_ _) | (with_reducible refine bstep ?_ (by with_reducible assumption)) | (with_reducible refine bturn ?_ (by with_reducible assumption) ?_) | go_size)))).mono ?_
      rintro e w2 ⟨rfl, hb2⟩
      have k2 := K1.out.step hb2
      have hb02 : Below w.heap.size w w2 := by (repeat' (first | (with_reducible exact Below.refl _ _) | (with_reducible assumption) | (with_reducible refine balloc ?_ _) | (with_reducible refine Below.drew ?_) | (with_reducible refine bset ?_ ?_ _) | (with_reducible refine bstep ?_ (by with_reducible assumption)) | (with_reducible refine bturn ?_ (by with_reducible assumption) ?_) | go_size))
      clear qu0 qu1 qu2 qu3 qu4 qu5 qu6 qu7 qu8 qu9 qu10 qu11 qu12 zu0 zu1 zu2 zu3 zu4 zu5 zu6 zu7 zu8 zu9 zu10 zu11 zu12 hlu hllu hb2
      have hlu := k2.lt; have hllu := lts hlu; have qu0 := k2.cell 0; have qu1 := k2.cell 1; have qu2 := k2.cell 2; have qu3 := k2.cell 3; have qu4 := k2.cell 4; have qu5 := k2.cell 5; have qu6 := k2.cell 6; have qu7 := k2.cell 7; have qu8 := k2.cell 8; have qu9 := k2.cell 9; have qu10 := k2.cell 10; have qu11 := k2.cell 11; have qu12 := k2.cell 12; simp at qu0 qu1 qu2 qu3 qu4 qu5 qu6 qu7 qu8 qu9 qu10 qu11 qu12; have zu0 := k2.frozen 0; have zu1 := k2.frozen 1; have zu2 := k2.frozen 2; have zu3 := k2.frozen 3; have zu4 := k2.frozen 4; have zu5 := k2.frozen 5; have zu6 := k2.frozen 6; have zu7 := k2.frozen 7; have zu8 := k2.frozen 8; have zu9 := k2.frozen 9; have zu10 := k2.frozen 10; have zu11 := k2.frozen 11; have zu12 := k2.frozen 12; have Hk2 := Lib.hid k2; clear k2
      cases sh with
      | false =>
        go_wp2_with fail
        go_returns
        exact ⟨by simp [oneR], by (repeat' (first | (with_reducible exact Below.refl _ _) | (with_reducible assumption) | (with_reducible refine balloc ?_ _) | (with_reducible refine Below.drew ?_) | (with_reducible refine bset ?_ ?_ _) | (with_reducible refine bstep ?_ (by with_reducible assumption)) | (with_reducible refine bturn ?_ (by with_reducible assumption) ?_) | go_size))⟩
      | true =>
        by_cases k6 : k = 6
        · subst k6
          cases R
          all_goals
            go_wp2_with fail
            go_returns
            refine ⟨?_, by (repeat' (first | (with_reducible exact Below.refl _ _) | (with_reducible assumption) | (with_reducible refine balloc ?_ _) | (with_reducible refine Below.drew ?_) | (with_reducible refine bset ?_ ?_ _) | (with_reducible refine bstep ?_ (by with_reducible assumption)) | (with_reducible refine bturn ?_ (by with_reducible assumption) ?_) | go_size))⟩
            simp [oneR, ← hq]
        · have k6b : (k == 6) = false := beq_eq_false_iff_ne.2 k6
          by_cases kl : 1 ≤ k
          · by_cases kg : k < 6
            · have F := Lib.hid (And.intro k6 (And.intro kl kg))
              cases R with
              | false =>
                by_cases k1' : k = 1
                · subst k1'
                  cases Z
                  case' true => cases ol
                  all_goals
                    go_wp2_with fail
                    go_returns
                    refine ⟨?_, by (repeat' (first | (with_reducible exact Below.refl _ _) | (with_reducible assumption) | (with_reducible refine balloc ?_ _) | (with_reducible refine Below.drew ?_) | (with_reducible refine bset ?_ ?_ _) | (with_reducible refine bstep ?_ (by with_reducible assumption)) | (with_reducible refine bturn ?_ (by with_reducible assumption) ?_) | go_size))⟩
                    simp [oneR]
                · have F1 := Lib.hid k1'
                  go_wp2_with fail
                  go_returns
                  exact ⟨by simp [oneR, F.out.1, F.out.2.1, F.out.2.2, F1.out], by (repeat' (first | (with_reducible exact Below.refl _ _) | (with_reducible assumption) | (with_reducible refine balloc ?_ _) | (with_reducible refine Below.drew ?_) | (with_reducible refine bset ?_ ?_ _) | (with_reducible refine bstep ?_ (by with_reducible assumption)) | (with_reducible refine bturn ?_ (by with_reducible assumption) ?_) | go_size))⟩
              | true =>
                cases Z
                case' true => cases ol
                all_goals
                  go_wp2_with fail
                  go_returns
                  refine ⟨?_, by (repeat' (first | (with_reducible exact Below.refl _ _) | (with_reducible assumption) | (with_reducible refine balloc ?_ _) | (with_reducible refine Below.drew ?_) | (with_reducible refine bset ?_ ?_ _) | (with_reducible refine bstep ?_ (by with_reducible assumption)) | (with_reducible refine bturn ?_ (by with_reducible assumption) ?_) | go_size))⟩
                  simp [oneR, F.out.1, F.out.2.1, F.out.2.2]
            · have F := Lib.hid (And.intro k6 (And.intro kl kg))
              go_wp2_with fail
              go_returns
              exact ⟨by simp [oneR, F.out.1]; intro a b; exfalso; omega, by (repeat' (first | (with_reducible exact Below.refl _ _) | (with_reducible assumption) | (with_reducible refine balloc ?_ _) | (with_reducible refine Below.drew ?_) | (with_reducible refine bset ?_ ?_ _) | (with_reducible refine bstep ?_ (by with_reducible assumption)) | (with_reducible refine bturn ?_ (by with_reducible assumption) ?_) | go_size))⟩
          · have F := Lib.hid (And.intro k6 kl)
            go_wp2_with fail
            go_returns
            exact ⟨by simp [oneR, F.out.1]; intro a b; exfalso; omega, by (repeat' (first | (with_reducible exact Below.refl _ _) | (with_reducible assumption) | (with_reducible refine balloc ?_ _) | (with_reducible refine Below.drew ?_) | (with_reducible refine bset ?_ ?_ _) | (with_reducible refine bstep ?_ (by with_reducible assumption)) | (with_reducible refine bturn ?_ (by with_reducible assumption) ?_) | go_size))⟩
end Go.Proofs.YtkkeplmaphcblaaGreatDoor

namespace Go.Proofs.YtkkeplmaphcblaaGreatDoor
open Go.RowKit Go.Shelf

def clT (t : Tst) : List Value := (cellsTs t).toList
theorem clT_len (t : Tst) : (clT t).length = 13 := rfl
theorem infoTst : (Tryz.prog.info? 82).map (fun i => (i.zero, i.size, i.bytes)) = some (some (.agg #[.int .i64 0, .int .i64 0, .int .i64 0, .int .i64 0, .string ⟨#[]⟩, .int .i64 0, .int .i64 0, .int .i64 0, .int .i64 0, .string ⟨#[]⟩, .int .i64 0, .bool false, .bool false]), 13, 112) := by kernel_rfl
/-- A test's cells, its texts by name. -/
theorem cellsTs_get (t : Tst) : ∃ (k lk ln ls : Int) (lq : ByteArray) (lm xk xn xs : Int) (xq : ByteArray) (xm : Int) (ol oh : Bool), cellsTs t = #[.int .i64 k, .int .i64 lk, .int .i64 ln, .int .i64 ls, .string lq, .int .i64 lm, .int .i64 xk, .int .i64 xn, .int .i64 xs, .string xq, .int .i64 xm, .bool ol, .bool oh] := ⟨_, _, _, _, _, _, _, _, _, _, _, _, _, rfl⟩
theorem test_L (p : PS) : p.test.2.L = p.L := by
  unfold PS.test
  (repeat' split) <;> dsimp only <;> (try split) <;> first | (rw [rank_L]; rfl) | exact lit_L _ | (rw [close_L, fail_L, need_L, rank_L]; rfl) | (rw [close_L, rank_L, need_L, rank_L]; rfl)
set_option maxHeartbeats 16000000 in
set_option maxRecDepth 100000 in
theorem list_any (b : Nat) (A : Option Addr) (c : Nat) (p : PS) (w : World) (h : PB w b A c p)
    (KT : Hid (∀ (q : PS), q.L = p.L → ∀ W, PB W b A c q → Calls Tryz.prog 103 #[.agg #[.pointer (some ⟨b, 0, none⟩)]] W fun e w' => e = .returned (.agg (cellsTs q.test.1)) ∧ PB w' b A c q.test.2 ∧ Gr b W w')) :
    Calls Tryz.prog 61 #[.agg #[.pointer (some ⟨b, 0, none⟩)]] w fun e w' => (∃ B cp, e = .returned (.slice B p.tests.1.length cp) ∧ RM clT 13 w' B p.tests.1 ∧ ∀ g o, B = some ⟨g, o, none⟩ → w.heap.size ≤ g) ∧ PB w' b A c p.tests.2 ∧ Gr b w w' := by
  have H := Lib.hid h
  have hlw := h.blk.lt
  obtain ⟨i0, hi, hz0, hz1, hz2⟩ := info_parts infoTst
  have HI := Lib.hid (And.intro hi (And.intro hz0 (And.intro hz1 hz2)))
  obtain ⟨X, hX⟩ : ∃ X, p.tests = X := ⟨_, rfl⟩
  have HX : Hid (moreT 9 [p.test.1] p.test.2 = X) := Lib.hid hX
  have K0 := Lib.hid (KT.out p rfl)
  have hT0 : ∃ t, p.test.1 = t := ⟨_, rfl⟩
  obtain ⟨T0, hT0⟩ := hT0
  obtain ⟨Q0, hQ0⟩ : ∃ q, p.test.2 = q := ⟨_, rfl⟩
  have l0 := Lib.hid (test_L p)
  rw [hT0, hQ0] at K0
  obtain ⟨ak, alk, aln, als, alq, alm, axk, axn, axs, axq, axm, aol, aoh, hcT⟩ := cellsTs_get T0
  rw [hcT] at K0
  have HC0 := Lib.hid hcT
  have HX0 : Hid (moreT 9 [T0] Q0 = X) := Lib.hid (by rw [← hT0, ← hQ0]; exact HX.out)
  have HL0 : Hid (Q0.L = p.L) := Lib.hid (by rw [← hQ0]; exact l0.out)
  rw [hX]
  have KIs := Lib.hid (fun (q : PS) (W : World) (h : PB W b A c q) => is_any b A c q [44] W h)
  have KTk := Lib.hid (fun (q : PS) (W : World) (h : PB W b A c q) => take_any b A c q [44] W h)
  have KF := Lib.hid (fun (q : PS) (W : World) (h : PB W b A c q) => fail_any b A c q 10 W h)
  clear hcT h hi hz0 hz1 hz2 hX hT0 hQ0 l0 HX
  go_enter Tryz.func61, Tryz.ntmps61
  have kb0 : Blk (w.alloc (.cells #[.pointer (some ⟨b, 0, none⟩)] 87)) w.heap.size 87 #[.pointer (some ⟨b, 0, none⟩)] := Blk.new _ _ _
  go_wp2_with fail
  refine (K0.out _ (H.out.step (by (repeat' (first | (with_reducible exact Below.refl _ _) | (with_reducible assumption) | (with_reducible refine balloc ?_ _) | (with_reducible refine Below.drew ?_) | (with_reducible refine bset ?_ ?_ _) | (with_reducible refine bstep ?_ (by with_reducible assumption)) | (with_reducible refine bturn ?_ (by with_reducible assumption) ?_) | go_size))))).mono ?_
  rintro e w1 ⟨rfl, h1, g1⟩
  have hz1 := g1.size
  simp only [World.size_alloc] at hz1
  have kb1 := kb0.gr g1 (by omega)
  have g01 : Gr b w w1 := (Gr.of (by (repeat' (first | (with_reducible exact Below.refl _ _) | (with_reducible assumption) | (with_reducible refine balloc ?_ _) | (with_reducible refine Below.drew ?_) | (with_reducible refine bset ?_ ?_ _) | (with_reducible refine bstep ?_ (by with_reducible assumption)) | (with_reducible refine bturn ?_ (by with_reducible assumption) ?_) | go_size)))).trans g1
  clear kb0 g1
  go_wp2_with fail
  go_loopw [3] (fun out wr => ∃ (l : List Tst) (q : PS), Hid (1 ≤ l.length ∧ l.length ≤ 8 ∧ moreT (10 - l.length) l q = X ∧ q.L = p.L) ∧ wr.ownsRow (w.heap.size + 1) 82 13 out l.length (rowL clT l) ∧ Blk wr w.heap.size 87 #[.pointer (some ⟨b, 0, none⟩)] ∧ PB wr b A c q ∧ Gr b w wr) (fun out _ => 9 - lenOf out)
  case atStart =>
    refine ⟨[T0], Q0, Lib.hid ⟨Nat.le_refl _, by simp, HX0.out, HL0.out⟩, own_new (Blk.new _ _ _) (by omega) (by rw [rowL_one]; unfold clT; rw [HC0.out]) (by rw [rowL_one]; rfl), kb1.alloc _, h1.step (by (repeat' (first | (with_reducible exact Below.refl _ _) | (with_reducible assumption) | (with_reducible refine balloc ?_ _) | (with_reducible refine Below.drew ?_) | (with_reducible refine bset ?_ ?_ _) | (with_reducible refine bstep ?_ (by with_reducible assumption)) | (with_reducible refine bturn ?_ (by with_reducible assumption) ?_) | go_size))), g01.alloc _⟩
  case round =>
    obtain ⟨l, q, HQ, hown, kb, hp, g⟩ := hrel
    obtain ⟨B, cp, hv, hRM, hlc, hcm, hbase⟩ := own_rm clT_len hown rfl
    subst hv
    have hz := g.size
    have HO := Lib.hid hown
    have HR := Lib.hid (And.intro hRM hbase)
    have HB := Lib.hid kb
    have HP := Lib.hid hp
    have HG := Lib.hid g
    have KI1 := Lib.hid (KIs.out q)
    have KT1 := Lib.hid (KTk.out q)
    have hl8 : (l.length : Int) ≤ 8 := by have := HQ.out.2.1; omega
    clear hown hRM hbase hp g hlc hcm
    cases hM : q.isS [44] with
    | false =>
      have hres : (l, q) = X := by
        rw [← HQ.out.2.2.1]
        have e : 10 - l.length = (9 - l.length) + 1 := by have := HQ.out.2.1; omega
        rw [e, moreT, hM]
        rfl
      have HRes := Lib.hid hres
      rw [hM] at KI1
      clear hM hres
      have hlu := kb.lt; have hllu := lts hlu; have qu0 := kb.cell 0; simp at qu0; have zu0 := kb.frozen 0; have Hkb := Lib.hid kb; clear kb
      go_wp2_with fail
      refine (KI1.out _ HP.out).mono ?_
      rintro e w2 ⟨rfl, hb2⟩
      go_wp2_with fail
      go_returns
      have hr := HRes.out
      subst hr
      exact ⟨⟨B, cp, rfl, HR.out.1.step hb2, fun g o e => by have := HR.out.2 g o e; omega⟩, HP.out.step hb2, HG.out.bstep hb2⟩
    | true =>
      rw [hM] at KI1
      rw [hM, take_yes hM] at KT1
      by_cases h8 : l.length = 8
      · have hres : (l, q.fail 10) = X := by
          rw [← HQ.out.2.2.1]
          have e : 10 - l.length = 1 + 1 := by omega
          rw [e, moreT, hM, if_pos rfl, if_pos h8]
        have HRes := Lib.hid hres
        have h8i : (l.length : Int) = 8 := by omega
        clear hM hres h8
        have hlu := kb.lt; have hllu := lts hlu; have qu0 := kb.cell 0; simp at qu0; have zu0 := kb.frozen 0; have Hkb := Lib.hid kb; clear kb
        go_wp2_with fail
        refine (KI1.out _ HP.out).mono ?_
        rintro e w2 ⟨rfl, hb2⟩
        have kb2 := HB.out.step hb2
        clear qu0 zu0 hlu hllu
        have hlu := kb2.lt; have hllu := lts hlu; have qu0 := kb2.cell 0; simp at qu0; have zu0 := kb2.frozen 0; have Hkb2 := Lib.hid kb2; clear kb2
        go_wp2_with fail
        refine (KF.out q _ (HP.out.step hb2)).mono ?_
        rintro e w3 ⟨rfl, h3, g3⟩
        have hz2 := hb2.size
        go_wp2_with fail
        go_returns
        have hr := HRes.out
        subst hr
        exact ⟨⟨B, cp, rfl, (HR.out.1.step hb2).gr g3 (fun g o e => by have := HR.out.2 g o e; omega), fun g o e => by have := HR.out.2 g o e; omega⟩, h3, (HG.out.bstep hb2).trans g3⟩
      · have h8i : ¬ (l.length : Int) = 8 := by omega
        have hlt : l.length < 8 := by have := HQ.out.2.1; omega
        obtain ⟨T, hT⟩ : ∃ t, q.adv.test.1 = t := ⟨_, rfl⟩
        obtain ⟨Q, hQ⟩ : ∃ t, q.adv.test.2 = t := ⟨_, rfl⟩
        have hLQ : Q.L = p.L := by rw [← hQ, test_L]; exact HQ.out.2.2.2
        have hres : moreT (9 - l.length) (l ++ [T]) Q = X := by
          rw [← HQ.out.2.2.1]
          have e : 10 - l.length = (9 - l.length) + 1 := by omega
          rw [e, moreT, hM, if_pos rfl, if_neg h8, hT, hQ]
        have hll : (l ++ [T]).length = l.length + 1 := by simp
        have HQ2 : Hid (1 ≤ (l ++ [T]).length ∧ (l ++ [T]).length ≤ 8 ∧ moreT (10 - (l ++ [T]).length) (l ++ [T]) Q = X ∧ Q.L = p.L) := Lib.hid ⟨by omega, by omega, by rw [hll, show 10 - (l.length + 1) = 9 - l.length by omega]; exact hres, hLQ⟩
        have K2 := Lib.hid (KT.out q.adv HQ.out.2.2.2)
        rw [hT, hQ] at K2
        obtain ⟨bk, blk, bln, bls, blq, blm, bxk, bxn, bxs, bxq, bxm, bol, boh, hcT⟩ := cellsTs_get T
        rw [hcT] at K2
        have hcN : rowL clT l ++ [.int .i64 bk, .int .i64 blk, .int .i64 bln, .int .i64 bls, .string blq, .int .i64 blm, .int .i64 bxk, .int .i64 bxn, .int .i64 bxs, .string bxq, .int .i64 bxm, .bool bol, .bool boh] = rowL clT (l ++ [T]) := by
          rw [rowL_app, rowL_one]
          show _ = rowL clT l ++ (cellsTs T).toList
          rw [hcT]
        have HCN := Lib.hid hcN
        have HLL := Lib.hid hll
        clear hM hres h8 hT hQ hLQ hll hcT hcN
        have hlu := kb.lt; have hllu := lts hlu; have qu0 := kb.cell 0; simp at qu0; have zu0 := kb.frozen 0; have Hkb := Lib.hid kb; clear kb
        go_wp2_with fail
        refine (KI1.out _ HP.out).mono ?_
        rintro e w2 ⟨rfl, hb2⟩
        have kb2 := HB.out.step hb2
        have HB2 := Lib.hid kb2
        have h2 := HP.out.step hb2
        have ho2 := Lib.hid (own_below HO.out hb2)
        have g02 := HG.out.bstep hb2
        have hz2 := hb2.size
        clear qu0 zu0 hlu hllu HO HP HG HB
        have hlu := kb2.lt; have hllu := lts hlu; have qu0 := kb2.cell 0; simp at qu0; have zu0 := kb2.frozen 0; have Hkb2 := Lib.hid kb2; clear kb2
        go_wp2_with fail
        refine (KT1.out _ h2).mono ?_
        rintro e w3 ⟨rfl, h3, g3⟩
        have kb3 := HB2.out.gr g3 (by omega)
        have HB3 := Lib.hid kb3
        have ho3 := Lib.hid (own_gr ho2.out g3 (by omega))
        have g03 := g02.trans g3
        have hz3 := g3.size
        clear qu0 zu0 hlu hllu h2 ho2 g02 HB2
        have hlu := kb3.lt; have hllu := lts hlu; have qu0 := kb3.cell 0; simp at qu0; have zu0 := kb3.frozen 0; have Hkb3 := Lib.hid kb3; clear kb3
        go_wp2_with fail
        refine (K2.out _ h3).mono ?_
        rintro e w4 ⟨rfl, h4, g4⟩
        have kb4 := HB3.out.gr g4 (by omega)
        have ho4 := own_gr ho3.out g4 (by omega)
        have g04 := g03.trans g4
        have hz4 := g4.size
        clear qu0 zu0 hlu hllu h3 ho3 g03 HB3
        obtain ⟨hi, hz0, hz1, hz2'⟩ := HI.out
        go_wp2_with (at_builtin; refine wpList_append_own _ rfl _ _ 45 rfl (w.heap.size + 1) 82 i0 (.agg #[.int .i64 0, .int .i64 0, .int .i64 0, .int .i64 0, .string ⟨#[]⟩, .int .i64 0, .int .i64 0, .int .i64 0, .int .i64 0, .string ⟨#[]⟩, .int .i64 0, .bool false, .bool false]) 13 112 Tryz.underlying45 hi hz0 hz1 hz2' rfl (by decide) _ _ _ rfl (ho4.alloc _) ⟨w4.heap.size, 0, none⟩ 1 1 [.int .i64 bk, .int .i64 blk, .int .i64 bln, .int .i64 bls, .string blq, .int .i64 blm, .int .i64 bxk, .int .i64 bxn, .int .i64 bxs, .string bxq, .int .i64 bxm, .bool bol, .bool boh] rfl rfl ?c1 ?c2 ?c3 ?c4 ?c5 ?_)
        case c1 =>
          intro j u hj
          match j, hj with
          | 0, hj => simp at hj; subst hj; simp [Addr.add]
          | 1, hj => simp at hj; subst hj; simp [Addr.add]
          | 2, hj => simp at hj; subst hj; simp [Addr.add]
          | 3, hj => simp at hj; subst hj; simp [Addr.add]
          | 4, hj => simp at hj; subst hj; simp [Addr.add]
          | 5, hj => simp at hj; subst hj; simp [Addr.add]
          | 6, hj => simp at hj; subst hj; simp [Addr.add]
          | 7, hj => simp at hj; subst hj; simp [Addr.add]
          | 8, hj => simp at hj; subst hj; simp [Addr.add]
          | 9, hj => simp at hj; subst hj; simp [Addr.add]
          | 10, hj => simp at hj; subst hj; simp [Addr.add]
          | 11, hj => simp at hj; subst hj; simp [Addr.add]
          | 12, hj => simp at hj; subst hj; simp [Addr.add]
          | j + 13, hj => simp at hj
        case c2 =>
          intro u hu
          simp only [List.mem_cons, List.not_mem_nil, or_false] at hu
          rcases hu with h | h | h | h | h | h | h | h | h | h | h | h | h <;> subst h <;> rfl
        case c3 => unfold maxLen; omega
        case c4 => omega
        case c5 => simp; omega
        intro v' w5 hown' hgrow _
        rw [HCN.out] at hown'
        have hbl : ∀ g, (Value.slice B l.length cp).ownBlock = some g → w.heap.size + 1 ≤ g := fun g hg => (ho4.lt g hg).1
        have g05 : Gr b w w5 := Gr.grown (g04.alloc _) hgrow (fun g hg => by have := hbl g hg; omega)
        have h5 : PB w5 b A c Q := H.out.grown HQ2.out.2.2.2.symm (h4.step (by (repeat' (first | (with_reducible exact Below.refl _ _) | (with_reducible assumption) | (with_reducible refine balloc ?_ _) | (with_reducible refine Below.drew ?_) | (with_reducible refine bset ?_ ?_ _) | (with_reducible refine bstep ?_ (by with_reducible assumption)) | (with_reducible refine bturn ?_ (by with_reducible assumption) ?_) | go_size)))) hgrow (fun g hg => by have := hbl g hg; omega)
        have kb5 : Blk w5 w.heap.size 87 #[.pointer (some ⟨b, 0, none⟩)] := (kb4.alloc _).grown hgrow (fun e => by have := hbl _ e.symm; omega)
        obtain ⟨B', cp', hv', _⟩ := own_rm clT_len hown' (by rw [HLL.out])
        have HO5 := Lib.hid hown'
        have HV := Lib.hid hv'
        have hln : lenOf v' = l.length + 1 := by rw [hv']; rfl
        have HLN := Lib.hid hln
        clear hown' hgrow hv' hln hi hz0 hz1 hz2' ho4 h4 kb4 g04 hbl
        go_wp2_with fail
        go_roundw
        case rel => exact ⟨l ++ [T], Q, HQ2, by rw [HLL.out]; exact HO5.out, kb5, h5, g05⟩
        case measure => rw [HLN.out]; show 9 - (l.length + 1) < 9 - l.length; omega
end Go.Proofs.YtkkeplmaphcblaaGreatDoor

namespace Go.Proofs.YtkkeplmaphcblaaGreatDoor
open Go.RowKit Go.Shelf

set_option maxHeartbeats 8000000 in
set_option maxRecDepth 100000 in
theorem sfn_walk (k lk ln ls lm xk xn xs xm : Int) (lq xq : ByteArray) (ol oh b : Bool) (w : World)
    (KO : Hid (∀ W, Below w.heap.size w W → Calls Tryz.prog 64 #[.agg #[.int .i64 k, .int .i64 lk, .int .i64 ln, .int .i64 ls, .string lq, .int .i64 lm, .int .i64 xk, .int .i64 xn, .int .i64 xs, .string xq, .int .i64 xm, .bool ol, .bool oh]] W fun e w' => e = .returned (.bool b) ∧ Below W.heap.size W w')) :
    Calls Tryz.prog 63 #[.agg #[.int .i64 k, .int .i64 lk, .int .i64 ln, .int .i64 ls, .string lq, .int .i64 lm, .int .i64 xk, .int .i64 xn, .int .i64 xs, .string xq, .int .i64 xm, .bool ol, .bool oh]] w fun e w' => e = .returned (.bool (!b)) ∧ Below w.heap.size w w' := by
  go_enter Tryz.func63, Tryz.ntmps63
  go_wp2_with fail
  refine (KO.out _ (by (repeat' (first | (with_reducible exact Below.refl _ _) | (with_reducible assumption) | (with_reducible refine balloc ?_ _) | (with_reducible refine Below.drew ?_) | (with_reducible refine bset ?_ ?_ _) | (with_reducible refine bstep ?_ (by with_reducible assumption)) | (with_reducible refine bturn ?_ (by with_reducible assumption) ?_) | go_size)))).mono ?_
  rintro e w1 ⟨rfl, hb1⟩
  go_wp2_with fail
  go_returns
  exact ⟨rfl, by (repeat' (first | (with_reducible exact Below.refl _ _) | (with_reducible assumption) | (with_reducible refine balloc ?_ _) | (with_reducible refine Below.drew ?_) | (with_reducible refine bset ?_ ?_ _) | (with_reducible refine bstep ?_ (by with_reducible assumption)) | (with_reducible refine bturn ?_ (by with_reducible assumption) ?_) | go_size))⟩
theorem rmt_get {w : World} {A : Option Addr} {L : List Tst} (h : RM clT 13 w A L) {k : Nat} {t : Tst} (ht : L[k]? = some t) : ∃ g o, A = some ⟨g, o, none⟩ ∧ w.cell? ⟨g, o + k * 13, none⟩ = some (.int .i64 t.k) ∧ w.cell? ⟨g, o + k * 13 + 1, none⟩ = some (.int .i64 t.lo.k) ∧ w.cell? ⟨g, o + k * 13 + 2, none⟩ = some (.int .i64 t.lo.n) ∧ w.cell? ⟨g, o + k * 13 + 3, none⟩ = some (.int .i64 t.lo.s) ∧ w.cell? ⟨g, o + k * 13 + 4, none⟩ = some (.string (bs t.lo.t)) ∧ w.cell? ⟨g, o + k * 13 + 5, none⟩ = some (.int .i64 t.lo.m) ∧ w.cell? ⟨g, o + k * 13 + 6, none⟩ = some (.int .i64 t.hi.k) ∧ w.cell? ⟨g, o + k * 13 + 7, none⟩ = some (.int .i64 t.hi.n) ∧ w.cell? ⟨g, o + k * 13 + 8, none⟩ = some (.int .i64 t.hi.s) ∧ w.cell? ⟨g, o + k * 13 + 9, none⟩ = some (.string (bs t.hi.t)) ∧ w.cell? ⟨g, o + k * 13 + 10, none⟩ = some (.int .i64 t.hi.m) ∧ w.cell? ⟨g, o + k * 13 + 11, none⟩ = some (.bool t.ol) ∧ w.cell? ⟨g, o + k * 13 + 12, none⟩ = some (.bool t.oh) := by
  obtain ⟨g, o, e, hc⟩ := h k t ht
  exact ⟨g, o, e, hc 0 _ rfl, hc 1 _ rfl, hc 2 _ rfl, hc 3 _ rfl, hc 4 _ rfl, hc 5 _ rfl, hc 6 _ rfl, hc 7 _ rfl, hc 8 _ rfl, hc 9 _ rfl, hc 10 _ rfl, hc 11 _ rfl, hc 12 _ rfl⟩
set_option maxHeartbeats 8000000 in
set_option maxRecDepth 100000 in
theorem idx_walk (P : Tst → Bool) (A : Option Addr) (L : List Tst) (c : Nat) (hL : L.length ≤ 1000) (w : World) (hM : RM clT 13 w A L)
    (KP : Hid (∀ t ∈ L, ∀ W, Below w.heap.size w W → Calls Tryz.prog 63 #[.agg (cellsTs t)] W fun e w' => e = .returned (.bool (P t)) ∧ Below W.heap.size W w')) :
    Calls Tryz.prog 104 #[.slice A L.length c, .func (.func 63) #[] #[]] w fun e w' => (∃ r : Int, e = .returned (.int .i64 r) ∧ (0 ≤ r ↔ ∃ t ∈ L, P t = true)) ∧ Below w.heap.size w w' := by
  have HM := Lib.hid hM
  clear hM
  go_enter Tryz.func104, Tryz.ntmps104
  go_wp2_with fail
  go_loopw [8] (fun i wr => ∃ k : Nat, k ≤ L.length ∧ i = .int .i64 (k : Int) ∧ Below w.heap.size w wr ∧ Hid (∀ (j : Nat) (t : Tst), j < k → L[j]? = some t → P t = false)) (fun i _ => L.length - (intOf i).toNat)
  case atStart => exact ⟨0, by omega, rfl, Below.refl _ _, Lib.hid (fun j t h => absurd h (by omega))⟩
  case round =>
    obtain ⟨k, hk, rfl, hb, HQ⟩ := hrel
    by_cases hlt : k < L.length
    · obtain ⟨t, ht⟩ : ∃ t, L[k]? = some t := ⟨L[k], List.getElem?_eq_getElem hlt⟩
      have hki : (k : Int) < (L.length : Int) := by omega
      have hkn : IntKind.i64.wrap ((k : Int) + 1) = ((k + 1 : Nat) : Int) := by rw [IntWalk.i64_in _ (by omega)]; omega
      have hmem : t ∈ L := List.mem_of_getElem? ht
      have KP1 := Lib.hid (KP.out t hmem)
      obtain ⟨r, hr⟩ : ∃ r, P t = r := ⟨_, rfl⟩
      rw [hr] at KP1
      have HY : Hid (r = true → ∃ t ∈ L, P t = true) := Lib.hid (fun h => ⟨t, hmem, hr.trans h⟩)
      have HN : Hid (r = false → ∀ (j : Nat) (t : Tst), j < k + 1 → L[j]? = some t → P t = false) := Lib.hid (fun h j u hj hu => by
        by_cases he : j = k
        · subst he
          rw [ht] at hu
          injection hu with hu
          rw [← hu, hr, h]
        · exact HQ.out j u (by omega) hu)
      clear hr
      obtain ⟨g, o, rfl, HC⟩ := rmt_get HM.out ht
      have HT := Lib.hid ht
      obtain ⟨tk, ⟨lk, ln, ls, lt, lm⟩, ⟨xk, xn, xs, xt, xm⟩, ol, oh⟩ := t
      simp only at HC
      obtain ⟨c0, c1, c2, c3, c4, c5, c6, c7, c8, c9, c10, c11, c12⟩ := HC
      replace c0 := keep1 hb c0
      replace c1 := keep1 hb c1
      replace c2 := keep1 hb c2
      replace c3 := keep1 hb c3
      replace c4 := keep1 hb c4
      replace c5 := keep1 hb c5
      replace c6 := keep1 hb c6
      replace c7 := keep1 hb c7
      replace c8 := keep1 hb c8
      replace c9 := keep1 hb c9
      replace c10 := keep1 hb c10
      replace c11 := keep1 hb c11
      replace c12 := keep1 hb c12
      clear ht hmem HQ
      go_wp2_with fail
      refine (KP1.out _ hb).mono ?_
      rintro e w2 ⟨rfl, hb2⟩
      clear c0 c1 c2 c3 c4 c5 c6 c7 c8 c9 c10 c11 c12
      cases r with
      | true =>
        go_wp2_with fail
        go_returns
        exact ⟨⟨k, rfl, fun _ => HY.out (by simp), fun _ => by omega⟩, by (repeat' (first | (with_reducible exact Below.refl _ _) | (with_reducible assumption) | (with_reducible refine balloc ?_ _) | (with_reducible refine Below.drew ?_) | (with_reducible refine bset ?_ ?_ _) | (with_reducible refine bstep ?_ (by with_reducible assumption)) | (with_reducible refine bturn ?_ (by with_reducible assumption) ?_) | go_size))⟩
      | false =>
        go_wp2_with fail
        go_roundw
        case rel => exact ⟨k + 1, by omega, by go_num, by (repeat' (first | (with_reducible exact Below.refl _ _) | (with_reducible assumption) | (with_reducible refine balloc ?_ _) | (with_reducible refine Below.drew ?_) | (with_reducible refine bset ?_ ?_ _) | (with_reducible refine bstep ?_ (by with_reducible assumption)) | (with_reducible refine bturn ?_ (by with_reducible assumption) ?_) | go_size)), Lib.hid (HN.out (by simp))⟩
        case measure => simp [intOf]; omega
    · obtain rfl : k = L.length := by omega
      have hno : ¬ ∃ t ∈ L, P t = true := fun ⟨t, ht, hp⟩ => by
        obtain ⟨j, hj⟩ := List.mem_iff_getElem?.1 ht
        have := HQ.out j t (List.getElem?_eq_some_iff.1 hj).1 hj
        rw [this] at hp
        cases hp
      have HN := Lib.hid hno
      clear hno hlt
      go_wp2_with fail
      go_returns
      exact ⟨⟨-1, rfl, by simp [HN.out]⟩, hb⟩
set_option maxHeartbeats 8000000 in
set_option maxRecDepth 100000 in
theorem cont_walk (A : Option Addr) (n c : Nat) (w : World) (R : Prop) (b : Bool) (hb : b = true ↔ R)
    (KI : Hid (∀ W, Below w.heap.size w W → Calls Tryz.prog 104 #[.slice A n c, .func (.func 63) #[] #[]] W fun e w' => (∃ r : Int, e = .returned (.int .i64 r) ∧ (0 ≤ r ↔ R)) ∧ Below W.heap.size W w')) :
    Calls Tryz.prog 62 #[.slice A n c, .func (.func 63) #[] #[]] w fun e w' => e = .returned (.bool b) ∧ Below w.heap.size w w' := by
  go_enter Tryz.func62, Tryz.ntmps62
  go_wp2_with fail
  refine (KI.out _ (by (repeat' (first | (with_reducible exact Below.refl _ _) | (with_reducible assumption) | (with_reducible refine balloc ?_ _) | (with_reducible refine Below.drew ?_) | (with_reducible refine bset ?_ ?_ _) | (with_reducible refine bstep ?_ (by with_reducible assumption)) | (with_reducible refine bturn ?_ (by with_reducible assumption) ?_) | go_size)))).mono ?_
  rintro e w1 ⟨⟨r, rfl, hr⟩, hb1⟩
  have HB := Lib.hid hb
  have HR := Lib.hid hr
  clear hb hr
  go_wp2_with fail
  go_returns
  refine ⟨?_, by (repeat' (first | (with_reducible exact Below.refl _ _) | (with_reducible assumption) | (with_reducible refine balloc ?_ _) | (with_reducible refine Below.drew ?_) | (with_reducible refine bset ?_ ?_ _) | (with_reducible refine bstep ?_ (by with_reducible assumption)) | (with_reducible refine bturn ?_ (by with_reducible assumption) ?_) | go_size))⟩
  by_cases h : 0 ≤ r
  · rw [decide_eq_true h, HB.out.2 (HR.out.1 h)]
    rfl
  · rw [decide_eq_false h]
    cases hb : b with
    | false => rfl
    | true => exact absurd (HR.out.2 (HB.out.1 hb)) h
/-- What unary.Sound says. -/
def sndR (any no : Bool) (n : Nat) (P : Bool) : Bool := if any then !no && (n : Int) == 0 else decide (1 ≤ n) && decide (n ≤ 8) && P
set_option maxHeartbeats 8000000 in
set_option maxRecDepth 100000 in
theorem snd_walk (any no : Bool) (A : Option Addr) (n c : Nat) (P : Bool) (w : World)
    (KC : Hid (n ≤ 8 → ∀ W, Below w.heap.size w W → Calls Tryz.prog 62 #[.slice A n c, .func (.func 63) #[] #[]] W fun e w' => e = .returned (.bool (!P)) ∧ Below W.heap.size W w')) :
    Calls Tryz.prog 29 #[.agg #[.bool any, .bool no, .slice A n c]] w fun e w' => e = .returned (.bool (sndR any no n P)) ∧ Below w.heap.size w w' := by
  cases any with
  | true =>
    cases no with
    | true =>
      go_enter Tryz.func29, Tryz.ntmps29
      go_wp2_with fail
      go_returns
      exact ⟨rfl, by (repeat' (first | (with_reducible exact Below.refl _ _) | (with_reducible assumption) | (with_reducible refine balloc ?_ _) | (with_reducible refine Below.drew ?_) | (with_reducible refine bset ?_ ?_ _) | (with_reducible refine bstep ?_ (by with_reducible assumption)) | (with_reducible refine bturn ?_ (by with_reducible assumption) ?_) | go_size))⟩
    | false =>
      go_enter Tryz.func29, Tryz.ntmps29
      go_wp2_with fail
      go_returns
      refine ⟨?_, by (repeat' (first | (with_reducible exact Below.refl _ _) | (with_reducible assumption) | (with_reducible refine balloc ?_ _) | (with_reducible refine Below.drew ?_) | (with_reducible refine bset ?_ ?_ _) | (with_reducible refine bstep ?_ (by with_reducible assumption)) | (with_reducible refine bturn ?_ (by with_reducible assumption) ?_) | go_size))⟩
      simp [sndR]
  | false =>
    by_cases h1 : 1 ≤ n
    · have h1i : (1 : Int) ≤ (n : Int) := by omega
      by_cases h8 : n ≤ 8
      · have h8i : (n : Int) ≤ 8 := by omega
        have KC1 := Lib.hid (KC.out h8)
        have HE : Hid (sndR false no n P = P) := Lib.hid (by simp [sndR, h1, h8])
        clear h1 h8 KC
        cases P
        all_goals
          go_enter Tryz.func29, Tryz.ntmps29
          go_wp2_with fail
          refine (KC1.out _ (by (repeat' (first | (with_reducible exact Below.refl _ _) | (with_reducible assumption) | (with_reducible refine balloc ?_ _) | (with_reducible refine Below.drew ?_) | (with_reducible refine bset ?_ ?_ _) | (with_reducible refine bstep ?_ (by with_reducible assumption)) | (with_reducible refine bturn ?_ (by with_reducible assumption) ?_) | go_size)))).mono ?_
          rintro e w1 ⟨rfl, hb1⟩
          go_wp2_with fail
          go_returns
          refine ⟨?_, by (repeat' (first | (with_reducible exact Below.refl _ _) | (with_reducible assumption) | (with_reducible refine balloc ?_ _) | (with_reducible refine Below.drew ?_) | (with_reducible refine bset ?_ ?_ _) | (with_reducible refine bstep ?_ (by with_reducible assumption)) | (with_reducible refine bturn ?_ (by with_reducible assumption) ?_) | go_size))⟩
          rw [HE.out]
          try rfl
      · have h8i : ¬ (n : Int) ≤ 8 := by omega
        have HE : Hid (sndR false no n P = false) := Lib.hid (by simp [sndR, h8])
        clear h1 h8
        go_enter Tryz.func29, Tryz.ntmps29
        go_wp2_with fail
        go_returns
        refine ⟨?_, by (repeat' (first | (with_reducible exact Below.refl _ _) | (with_reducible assumption) | (with_reducible refine balloc ?_ _) | (with_reducible refine Below.drew ?_) | (with_reducible refine bset ?_ ?_ _) | (with_reducible refine bstep ?_ (by with_reducible assumption)) | (with_reducible refine bturn ?_ (by with_reducible assumption) ?_) | go_size))⟩
        rw [HE.out]
        try rfl
    · have h1i : ¬ (1 : Int) ≤ (n : Int) := by omega
      have HE : Hid (sndR false no n P = false) := Lib.hid (by simp [sndR]; omega)
      clear h1
      go_enter Tryz.func29, Tryz.ntmps29
      go_wp2_with fail
      go_returns
      refine ⟨?_, by (repeat' (first | (with_reducible exact Below.refl _ _) | (with_reducible assumption) | (with_reducible refine balloc ?_ _) | (with_reducible refine Below.drew ?_) | (with_reducible refine bset ?_ ?_ _) | (with_reducible refine bstep ?_ (by with_reducible assumption)) | (with_reducible refine bturn ?_ (by with_reducible assumption) ?_) | go_size))⟩
      rw [HE.out]
      try rfl
end Go.Proofs.YtkkeplmaphcblaaGreatDoor

namespace Go.Proofs.YtkkeplmaphcblaaGreatDoor
open Go.RowKit

theorem any_mem {l : Bs} (h : isAny l = true) {c : UInt8} (hc : c ∈ l) : c = 45 ∨ whites.contains c = true := by
  unfold isAny at h
  have h1 : ((l.dropWhile (whites.contains ·)).reverse.dropWhile (whites.contains ·)).reverse = [45] := by simpa using h
  have h2 : (l.dropWhile (whites.contains ·)).reverse.dropWhile (whites.contains ·) = [45] := by
    have := congrArg List.reverse h1
    simpa using this
  rw [← List.takeWhile_append_dropWhile (p := (whites.contains ·)) (l := l)] at hc
  rcases List.mem_append.1 hc with g | g
  · exact Or.inr (List.all_eq_true.1 List.all_takeWhile c g)
  · have g2 := List.mem_reverse.2 g
    rw [← List.takeWhile_append_dropWhile (p := (whites.contains ·)) (l := (l.dropWhile (whites.contains ·)).reverse), h2] at g2
    rcases List.mem_append.1 g2 with g3 | g3
    · exact Or.inr (List.all_eq_true.1 List.all_takeWhile c g3)
    · exact Or.inl (by simpa using g3)
def Ink (l : Bs) : Prop := ∃ c ∈ l, c ≠ 45 ∧ whites.contains c = false
theorem ink_any {l : Bs} (h : Ink l) : isAny l = false := by
  obtain ⟨c, hc, h1, h2⟩ := h
  cases hi : isAny l with
  | false => rfl
  | true =>
    rcases any_mem hi hc with g | g
    · exact absurd g h1
    · rw [h2] at g; cases g
theorem figs_ink {c : UInt8} (h : figs.contains c = true) : c ≠ 45 ∧ whites.contains c = false := by
  rw [List.contains_iff_mem] at h
  simp only [figs, List.mem_cons, List.not_mem_nil, or_false] at h
  rcases h with rfl | rfl | rfl | rfl | rfl | rfl | rfl | rfl | rfl | rfl <;> exact ⟨by decide, by decide⟩
theorem ink_val {v : Vl} (hv : vSound v) : Ink (vtxt v) := by
  obtain ⟨k, n, s, t, mm⟩ := v
  rcases hv with ⟨h1, h2, h3, h4, h5⟩ | ⟨h1, h2, h3, h4⟩ | ⟨h1, h2, h3, h4, h5, h6⟩ | ⟨h1, h2, h3, h4, h5⟩ | ⟨h1, h2, h3, h4, h5, h6⟩
  · simp only at h1
    subst h1
    exact ⟨110, List.mem_cons_self .., by decide, by decide⟩
  · simp only at h1 h2
    subst h1
    have hx : ∀ b, ∃ c ∈ textS b (mag n).toNat s.toNat, figs.contains c = true := fun b => by
      obtain ⟨c, r, g1, g2⟩ := text_head (mag n).toNat s.toNat
      refine ⟨c, ?_, g2⟩
      have hm : c ∈ textU (mag n).toNat s.toNat := by rw [g1]; exact List.mem_cons_self ..
      cases b with
      | true => exact List.mem_cons_of_mem _ hm
      | false => exact hm
    obtain ⟨c, hc, hf⟩ := hx (decide (n < 0))
    have e1 : vtxt ⟨1, n, s, t, mm⟩ = textS (decide (n < 0)) (mag n).toNat s.toNat := by simp [vtxt, dT, h2]
    rw [e1]
    exact ⟨c, hc, figs_ink hf⟩
  · simp only at h1
    subst h1
    exact ⟨34, by simp [vtxt], by decide, by decide⟩
  · simp only at h1 h5
    subst h1
    rcases h5 with rfl | rfl
    · exact ⟨102, by simp [vtxt, falseB], by decide, by decide⟩
    · exact ⟨116, by simp [vtxt, trueB], by decide, by decide⟩
  · simp only at h1
    subst h1
    exact ⟨64, by simp [vtxt], by decide, by decide⟩
theorem Ink.mono {l m : Bs} (h : Ink l) (hs : ∀ c ∈ l, c ∈ m) : Ink m := by
  obtain ⟨c, hc, h1⟩ := h
  exact ⟨c, hs c hc, h1⟩
theorem ink_test {t : Tst} (ht : tSound t) : Ink (ttxt t) := by
  refine (ink_val ht.1).mono fun c hc => ?_
  unfold ttxt
  split
  · exact hc
  · split
    · exact List.mem_cons_of_mem _ (List.mem_append_left _ hc)
    · exact List.mem_append_right _ (List.mem_cons_of_mem _ hc)
theorem ink_list : ∀ {l : List Tst}, l ≠ [] → (∀ t ∈ l, tSound t) → Ink (ltxt l)
  | [], h, _ => absurd rfl h
  | [t], _, h => ink_test (h t (List.mem_cons_self ..))
  | t :: _u :: _r, _, h => (ink_test (h t (List.mem_cons_self ..))).mono fun _c hc => List.mem_append_left _ hc

/-- May they be tests? -/
def tsSound (t : Tsts) : Prop := if t.any = true then t.no = false ∧ t.l = [] else 1 ≤ t.l.length ∧ t.l.length ≤ 8 ∧ ∀ u ∈ t.l, tSound u
noncomputable def utxt (t : Tsts) : Bs := if t.any = true then [45] else if t.no = true then notB ++ 40 :: (ltxt t.l ++ [41]) else ltxt t.l
def utoks (t : Tsts) : List Tk := if t.no = true then nm notB :: sg [40] :: (ltoks t.l ++ [sg [41]]) else ltoks t.l
theorem vtxt_len {v : Vl} (hv : vSound v) : (vtxt v).length ≤ 514 := by
  obtain ⟨k, n, s, t, mm⟩ := v
  rcases hv with ⟨h1, h2, h3, h4, h5⟩ | ⟨h1, h2, h3, h4⟩ | ⟨h1, h2, h3, h4, h5, h6⟩ | ⟨h1, h2, h3, h4, h5⟩ | ⟨h1, h2, h3, h4, h5, h6⟩
  · simp only at h1
    subst h1
    exact (by decide : nullB.length ≤ 514)
  · simp only at h1
    subst h1
    have := dT_len n s
    simp only [vtxt, if_true]
    omega
  · simp only at h1 h5
    subst h1
    have := escB_two t
    simp [vtxt]
    omega
  · simp only at h1 h5
    subst h1
    rcases h5 with rfl | rfl <;> simp [vtxt, falseB, trueB]
  · simp only at h1
    subst h1
    have := (yT_spec mm).1
    simp [vtxt]
    omega
theorem ttxt_len {t : Tst} (ht : tSound t) : (ttxt t).length ≤ 1032 := by
  have h1 := vtxt_len ht.1
  have h2 := vtxt_len ht.2.1
  unfold ttxt
  split
  · omega
  · split
    · simp only [List.length_cons, List.length_append, List.length_nil]
      omega
    · have : (signT t.k).length ≤ 2 := by unfold signT; (repeat' split) <;> simp
      rw [List.length_append, List.length_cons]
      omega
theorem ltxt_len : ∀ {l : List Tst}, (∀ t ∈ l, tSound t) → (ltxt l).length ≤ l.length * 1034
  | [], _ => by simp [ltxt]
  | [t], h => by
    have := ttxt_len (h t (List.mem_cons_self ..))
    simp only [ltxt, List.length_cons, List.length_nil]
    omega
  | t :: u :: r, h => by
    have h1 := ttxt_len (h t (List.mem_cons_self ..))
    have h2 := ltxt_len (l := u :: r) fun v hv => h v (List.mem_cons_of_mem _ hv)
    simp only [ltxt, List.length_append, List.length_cons] at h2 ⊢
    omega
theorem utxt_len {t : Tsts} (ht : tsSound t) : (utxt t).length ≤ 10000 := by
  unfold tsSound at ht
  unfold utxt
  split
  · simp
  · rename_i ha
    rw [if_neg ha] at ht
    have h1 := ltxt_len ht.2.2
    have h2 := ht.2.1
    split
    · simp only [List.length_append, List.length_cons, List.length_nil, notB]
      omega
    · omega
theorem utxt_any {t : Tsts} (ht : tsSound t) (ha : ¬ t.any = true) : isAny (utxt t) = false := by
  unfold tsSound at ht
  rw [if_neg ha] at ht
  unfold utxt
  rw [if_neg ha]
  split
  · exact ink_any ⟨110, List.mem_append_left _ (List.mem_cons_self ..), by decide, by decide⟩
  · exact ink_any (ink_list (by intro h; have := ht.1; rw [h] at this; simp at this) ht.2.2)
theorem reads_utxt (m : Int) (w : World) (hw : OKW m w) {t : Tsts} (ht : tsSound t) (ha : ¬ t.any = true) : Reads (lxX m) (utxt t) (utoks t) := by
  unfold tsSound at ht
  rw [if_neg ha] at ht
  unfold utxt utoks
  rw [if_neg ha]
  split
  · exact reads_tok (o := notB) (t := nm notB) rfl rfl (stop_of rfl (by decide) (by decide)) (reads_open (reads_list m w hw _ ht.2.2 (stop41 _) (reads_close (reads_nil _))))
  · have := reads_list m w hw _ ht.2.2 (.inl rfl) (reads_nil (lxX m))
    rwa [List.append_nil, List.append_nil] at this

def ctoks : List Tst → List Tk
  | [] => []
  | t :: r => sg [44] :: (ttoks t ++ ctoks r)
theorem ltoks_cons : ∀ (t : Tst) (r : List Tst), ltoks (t :: r) = ttoks t ++ ctoks r
  | t, [] => by simp [ltoks, ctoks]
  | t, u :: r => by
    show ttoks t ++ sg [44] :: ltoks (u :: r) = _
    rw [ltoks_cons u r]
    rfl
theorem more_on : ∀ (r : List Tst) (f : Nat) (acc : List Tst) (p : PS) (R : List Tk), (∀ t ∈ r, tSound t) → acc.length + r.length ≤ 8 → r.length < f → (∀ q, On q R → q.isS [44] = false) → On p (ctoks r ++ R) → (moreT f acc p).1 = acc ++ r ∧ On (moreT f acc p).2 R
  | _, 0, _, _, _, _, _, hf, _, _ => absurd hf (by omega)
  | [], f + 1, acc, p, R, _, _, _, hR, h => by
    unfold moreT
    rw [hR p h]
    simp only [Bool.false_eq_true, if_false, List.append_nil]
    exact ⟨trivial, h⟩
  | t :: r, f + 1, acc, p, R, ht, hl, hf, hR, h => by
    have h' : On p (sg [44] :: (ttoks t ++ (ctoks r ++ R))) := by
      have e : ctoks (t :: r) ++ R = sg [44] :: (ttoks t ++ (ctoks r ++ R)) := by simp [ctoks]
      rw [← e]
      exact h
    rw [List.length_cons] at hl hf
    have hi : p.isS [44] = true := by rw [h'.is_]; rfl
    obtain ⟨g1, g2⟩ := test_on (ht t (List.mem_cons_self ..)) h'.adv
    have ih := more_on r f (acc ++ [t]) p.adv.test.2 R (fun u hu => ht u (List.mem_cons_of_mem _ hu)) (by rw [List.length_append, List.length_cons, List.length_nil]; omega) (by omega) hR g2
    unfold moreT
    rw [if_pos hi, if_neg (by omega : ¬ acc.length = 8), g1]
    rw [List.append_assoc] at ih
    exact ih
theorem tests_on {p : PS} {l : List Tst} {R : List Tk} (h1 : 1 ≤ l.length) (h8 : l.length ≤ 8) (ht : ∀ t ∈ l, tSound t) (hR : ∀ q, On q R → q.isS [44] = false) (h : On p (ltoks l ++ R)) : p.tests.1 = l ∧ On p.tests.2 R := by
  cases l with
  | nil => simp at h1
  | cons t r =>
    rw [ltoks_cons, List.append_assoc] at h
    obtain ⟨g1, g2⟩ := test_on (ht t (List.mem_cons_self ..)) h
    rw [List.length_cons] at h8
    have := more_on r 9 [t] p.test.2 R (fun u hu => ht u (List.mem_cons_of_mem _ hu)) (by rw [List.length_cons, List.length_nil]; omega) (by omega) hR g2
    unfold PS.tests
    rw [g1]
    exact this
theorem out_on {no : Bool} {l : List Tst} {p : PS} (h : On p []) : outT no l p = (⟨false, no, l⟩, 0, 0) := by
  have he : p.ended = true := by
    unfold PS.ended
    rw [h.end_]
    simp [h.e]
  have hf : p.fin = p := by
    unfold PS.fin
    rw [he]
    simp
  unfold outT
  rw [hf, if_pos h.e]
theorem head_not {t : Tst} {R : List Tk} {p : PS} (ht : tSound t) (h : On p (ttoks t ++ R)) : p.isS notB = false := by
  obtain ⟨k, lo, hi, ol, oh⟩ := t
  by_cases k1 : k = 1
  · subst k1
    obtain ⟨t0, r0, hh, hno⟩ := vtoks_head ht.1
    simp only at hh
    have e2 : ttoks ⟨1, lo, hi, ol, oh⟩ = t0 :: r0 := by simp [ttoks, hh]
    rw [e2] at h
    have h' : On p (t0 :: (r0 ++ R)) := h
    rw [h'.is_]
    exact hno notB (by decide) (by decide) (by decide) (by decide)
  · by_cases k6 : k = 6
    · subst k6
      have e2 : ttoks ⟨6, lo, hi, ol, oh⟩ ++ R = sg [if ol then 40 else 91] :: (vtoks lo ++ (sg [46, 46] :: (vtoks hi ++ (sg [if oh then 41 else 93] :: R)))) := by simp [ttoks]
      rw [e2] at h
      rw [h.is_]
      cases ol <;> rfl
    · have e2 : ttoks ⟨k, lo, hi, ol, oh⟩ ++ R = sg (signT k) :: (vtoks lo ++ R) := by simp [ttoks, k1, k6]
      rw [e2] at h
      rw [h.is_]
      unfold signT
      (repeat' split) <;> rfl
/-- Sound tests that are written are read as they were. -/
theorem back_plain (m : Int) (w : World) (hw : OKW m w) (t : Tsts) (ht : tsSound t) : unaryS (lxX m) (utxt t) = (t, 0, 0) := by
  have hlen := utxt_len ht
  have ht0 := ht
  unfold tsSound at ht
  by_cases ha : t.any = true
  · rw [if_pos ha] at ht
    obtain ⟨any, no, l⟩ := t
    simp only at ha ht
    obtain ⟨rfl, rfl⟩ := ht
    subst ha
    have : utxt ⟨true, false, []⟩ = [45] := rfl
    rw [this]
    rfl
  · have hA := utxt_any ht0 ha
    obtain ⟨T', h1, h2⟩ := reads_utxt m w hw ht0 ha 0 []
    rw [if_neg ha] at ht
    have hT : toksS (lxX m) (utxt t) = ⟨T', 0, 0⟩ := by
      unfold toksS
      rw [if_neg (by omega)]
      exact h1
    unfold unaryS
    rw [hA, hT]
    have hon : On (newP ⟨T', 0, 0⟩ (utxt t).length) (utoks t) := ⟨rfl, Nat.zero_le _, h2⟩
    show readT _ = _
    obtain ⟨any, no, l⟩ := t
    simp only [Bool.not_eq_true] at ha ht
    subst ha
    cases no with
    | true =>
      have h : On (newP ⟨T', 0, 0⟩ (utxt ⟨false, true, l⟩).length) (nm notB :: sg [40] :: (ltoks l ++ [sg [41]])) := hon
      have hi : (newP ⟨T', 0, 0⟩ (utxt ⟨false, true, l⟩).length).isS notB = true := by rw [h.is_]; rfl
      obtain ⟨n1, n2⟩ := h.adv.need
      obtain ⟨g1, g2⟩ := tests_on ht.1 ht.2.1 ht.2.2 (fun q hq => by rw [hq.is_]; rfl) n2
      obtain ⟨k1, k2⟩ := g2.need
      unfold readT
      rw [if_pos hi, n1, g1, k1]
      exact out_on k2
    | false =>
      have h : On (newP ⟨T', 0, 0⟩ (utxt ⟨false, false, l⟩).length) (ltoks l ++ []) := by rw [List.append_nil]; exact hon
      obtain ⟨g1, g2⟩ := tests_on ht.1 ht.2.1 ht.2.2 (fun q hq => hq.is_nil _) h
      have hi : (newP ⟨T', 0, 0⟩ (utxt ⟨false, false, l⟩).length).isS notB = false := by
        cases l with
        | nil => have := ht.1; simp at this
        | cons t r =>
          rw [ltoks_cons, List.append_assoc] at h
          exact head_not (ht.2.2 t (List.mem_cons_self ..)) h
      unfold readT
      rw [hi]
      simp only [Bool.false_eq_true, if_false]
      rw [g1]
      exact out_on g2
end Go.Proofs.YtkkeplmaphcblaaGreatDoor

namespace Go.Proofs.YtkkeplmaphcblaaGreatDoor
open Go.RowKit Go.Shelf

theorem zero_iff (v : Vl) : vlq v.k v.n v.s (bs v.t) v.m 0 0 0 ⟨#[]⟩ 0 = true ↔ v = zeroV := by
  obtain ⟨k, n, s, t, m⟩ := v
  rw [vlq_iff, bs_toList, show (⟨#[]⟩ : ByteArray).toList = [] from bs_toList []]
  constructor
  · rintro ⟨h1, h2, h3, h4, h5⟩
    simp only at h1 h2 h3 h4 h5
    subst h1 h2 h3 h4 h5
    rfl
  · intro h
    unfold zeroV at h
    injection h with h1 h2 h3 h4 h5
    exact ⟨h1, h2, h3, h4, h5⟩
open Classical in
theorem oneR_eq (t : Tst) : oneR t.k (t.lo.k == 1 || t.lo.k == 4) (decide (vSound t.lo)) (decide (vSound t.hi)) (t.hi.k == t.lo.k) (vlq t.hi.k t.hi.n t.hi.s (bs t.hi.t) t.hi.m 0 0 0 ⟨#[]⟩ 0) t.ol t.oh = decide (tSound t) := by
  rw [Bool.eq_iff_iff, decide_eq_true_iff]
  unfold oneR tSound
  have hr : (t.lo.k == 1 || t.lo.k == 4) = true ↔ vRank t.lo := by unfold vRank; simp
  rw [Bool.and_eq_true, Bool.and_eq_true, decide_eq_true_iff, decide_eq_true_iff, and_assoc]
  refine and_congr_right fun h1 => and_congr_right fun h2 => ?_
  by_cases h6 : t.k = 6
  · rw [if_pos h6, Bool.and_eq_true, hr, beq_iff_eq]
    constructor
    · rintro ⟨h3, h4⟩
      exact .inl ⟨h6, h3, h4⟩
    · rintro (⟨_, h3, h4⟩ | ⟨h3, _⟩)
      · exact ⟨h3, h4⟩
      · omega
  · rw [if_neg h6]
    simp only [Bool.and_eq_true, Bool.or_eq_true, decide_eq_true_iff, Bool.not_eq_true', beq_iff_eq]
    rw [zero_iff]
    have hr2 : t.lo.k = 1 ∨ t.lo.k = 4 ↔ vRank t.lo := Iff.rfl
    rw [hr2]
    constructor
    · rintro ⟨⟨⟨⟨⟨h3, h4⟩, h5⟩, h7⟩, h8⟩, h9⟩
      refine .inr ⟨?_, h7, h8, h9⟩
      rcases h5 with h5 | h5
      · by_cases hk : t.k = 1
        · exact .inl hk
        · exact .inr ⟨by omega, h5⟩
      · exact .inl h5
    · rintro (⟨h3, _⟩ | ⟨h3, h7, h8, h9⟩)
      · exact absurd h3 h6
      · rcases h3 with h3 | ⟨h3, h4⟩
        · exact ⟨⟨⟨⟨⟨by omega, by omega⟩, .inr h3⟩, h7⟩, h8⟩, h9⟩
        · exact ⟨⟨⟨⟨⟨by omega, by omega⟩, .inl h4⟩, h7⟩, h8⟩, h9⟩
/-- What a test's numbers keep to. -/
structure TOk (t : Tst) : Prop where
  k : I64 t.k
  lo : VOk t.lo
  hi : VOk t.hi
open Classical in
theorem uone_any (t : Tst) (ht : TOk t) (m : Int) (w : World) (hw : OKW m w) :
    Calls Tryz.prog 64 #[.agg (cellsTs t)] w fun e w' => e = .returned (.bool (decide (tSound t))) ∧ Below w.heap.size w w' := by
  rw [← oneR_eq]
  exact one_walk t.k t.lo.k t.lo.n t.lo.s t.lo.m t.hi.k t.hi.n t.hi.s t.hi.m (bs t.lo.t) (bs t.hi.t) t.ol t.oh w _ _ _ _ _ rfl rfl rfl
    (Lib.hid fun W hb => vsd_any t.lo ht.lo m W (hw.step hb)) (Lib.hid fun W hb => vsd_any t.hi ht.hi m W (hw.step hb))
open Classical in
theorem usfn_any (t : Tst) (ht : TOk t) (m : Int) (w : World) (hw : OKW m w) :
    Calls Tryz.prog 63 #[.agg (cellsTs t)] w fun e w' => e = .returned (.bool (!decide (tSound t))) ∧ Below w.heap.size w w' :=
  sfn_walk t.k t.lo.k t.lo.n t.lo.s t.lo.m t.hi.k t.hi.n t.hi.s t.hi.m (bs t.lo.t) (bs t.hi.t) t.ol t.oh _ w (Lib.hid fun W hb => uone_any t ht m W (hw.step hb))
open Classical in
theorem usound_any (t : Tsts) (A : Option Addr) (c : Nat) (m : Int) (w : World) (hw : OKW m w) (hM : RM clT 13 w A t.l) (hok : ∀ u ∈ t.l, TOk u) :
    Calls Tryz.prog 29 #[.agg #[.bool t.any, .bool t.no, .slice A t.l.length c]] w fun e w' => e = .returned (.bool (decide (tsSound t))) ∧ Below w.heap.size w w' := by
  have e : sndR t.any t.no t.l.length (decide (∀ u ∈ t.l, tSound u)) = decide (tsSound t) := by
    rw [Bool.eq_iff_iff, decide_eq_true_iff]
    unfold sndR tsSound
    cases ha : t.any with
    | true =>
      rw [if_pos rfl, if_pos rfl, Bool.and_eq_true]
      refine and_congr (by simp) ?_
      rw [beq_iff_eq]
      constructor
      · intro h
        exact List.eq_nil_of_length_eq_zero (by omega)
      · intro h
        rw [h]
        rfl
    | false =>
      rw [if_neg (by simp), if_neg (by simp), Bool.and_eq_true, Bool.and_eq_true, decide_eq_true_iff, decide_eq_true_iff, decide_eq_true_iff, and_assoc]
  rw [← e]
  refine snd_walk t.any t.no A t.l.length c _ w (Lib.hid fun h8 W hb => ?_)
  refine cont_walk A t.l.length c W (∃ u ∈ t.l, decide (tSound u) = false) _ ?_ (Lib.hid fun W2 hb2 => ?_)
  · rw [Bool.not_eq_true', decide_eq_false_iff_not]
    constructor
    · intro h
      exact Classical.byContradiction fun hn => h fun u hu => Classical.byContradiction fun h2 => hn ⟨u, hu, decide_eq_false h2⟩
    · rintro ⟨u, hu, h⟩ hall
      exact absurd (hall u hu) (of_decide_eq_false h)
  · have h := idx_walk (fun u => !decide (tSound u)) A t.l c (by omega) W2 ((hM.step hb).step hb2) (Lib.hid fun u hu W3 hb3 => usfn_any u (hok u hu) m W3 (((hw.step hb).step hb2).step hb3))
    refine h.mono ?_
    rintro e w' ⟨⟨r, rfl, hr⟩, hb'⟩
    refine ⟨⟨r, rfl, hr.trans ?_⟩, hb'⟩
    simp
end Go.Proofs.YtkkeplmaphcblaaGreatDoor

namespace Go.Proofs.YtkkeplmaphcblaaGreatDoor
open Go.RowKit

section
variable (n s m : Int) (q : ByteArray) (w : World)
set_option maxHeartbeats 8000000 in
set_option maxRecDepth 100000 in
theorem vt_0 (KS : Hid (∀ W, Below w.heap.size w W → Calls Tryz.prog 48 #[.agg #[.int .i64 0, .int .i64 n, .int .i64 s, .string q, .int .i64 m]] W fun e w' => e = .returned (.bool true) ∧ Below W.heap.size W w')) :
    Calls Tryz.prog 92 #[.agg #[.int .i64 0, .int .i64 n, .int .i64 s, .string q, .int .i64 m]] w fun e w' => e = .returned (.tuple #[.string ⟨#[110, 117, 108, 108]⟩, .int .i64 0]) ∧ Below w.heap.size w w' := by
  have k0 : Blk (w.alloc (.cells #[.int .i64 0, .int .i64 n, .int .i64 s, .string q, .int .i64 m] 25)) w.heap.size 25 #[.int .i64 0, .int .i64 n, .int .i64 s, .string q, .int .i64 m] := Blk.new _ _ _
  go_enter Tryz.func92, Tryz.ntmps92
  go_wp2_with fail
  refine (KS.out _ (by (repeat' (first | (with_reducible exact Below.refl _ _) | (with_reducible assumption) | (with_reducible refine balloc ?_ _) | (with_reducible refine Below.drew ?_) | (with_reducible refine bset ?_ ?_ _) | (with_reducible refine bstep ?_ (by with_reducible assumption)) | (with_reducible refine bturn ?_ (by with_reducible assumption) ?_) | go_size)))).mono ?_
  rintro e w1 ⟨rfl, hb1⟩
  have k1 := k0.step hb1
  have hb : Below w.heap.size w w1 := by (repeat' (first | (with_reducible exact Below.refl _ _) | (with_reducible assumption) | (with_reducible refine balloc ?_ _) | (with_reducible refine Below.drew ?_) | (with_reducible refine bset ?_ ?_ _) | (with_reducible refine bstep ?_ (by with_reducible assumption)) | (with_reducible refine bturn ?_ (by with_reducible assumption) ?_) | go_size))
  clear k0
  have hlu := k1.lt; have hllu := lts hlu; have qu0 := k1.cell 0; have qu1 := k1.cell 1; have qu2 := k1.cell 2; have qu3 := k1.cell 3; have qu4 := k1.cell 4; simp at qu0 qu1 qu2 qu3 qu4; have zu0 := k1.frozen 0; have zu1 := k1.frozen 1; have zu2 := k1.frozen 2; have zu3 := k1.frozen 3; have zu4 := k1.frozen 4; have Hk1 := Lib.hid k1; clear k1
  go_wp2_with fail
  go_returns
  exact ⟨rfl, by (repeat' (first | (with_reducible exact Below.refl _ _) | (with_reducible assumption) | (with_reducible refine balloc ?_ _) | (with_reducible refine Below.drew ?_) | (with_reducible refine bset ?_ ?_ _) | (with_reducible refine bstep ?_ (by with_reducible assumption)) | (with_reducible refine bturn ?_ (by with_reducible assumption) ?_) | go_size))⟩
set_option maxHeartbeats 8000000 in
set_option maxRecDepth 100000 in
theorem vt_3f (KS : Hid (∀ W, Below w.heap.size w W → Calls Tryz.prog 48 #[.agg #[.int .i64 3, .int .i64 n, .int .i64 s, .string q, .int .i64 0]] W fun e w' => e = .returned (.bool true) ∧ Below W.heap.size W w')) :
    Calls Tryz.prog 92 #[.agg #[.int .i64 3, .int .i64 n, .int .i64 s, .string q, .int .i64 0]] w fun e w' => e = .returned (.tuple #[.string ⟨#[102, 97, 108, 115, 101]⟩, .int .i64 0]) ∧ Below w.heap.size w w' := by
  have k0 : Blk (w.alloc (.cells #[.int .i64 3, .int .i64 n, .int .i64 s, .string q, .int .i64 0] 25)) w.heap.size 25 #[.int .i64 3, .int .i64 n, .int .i64 s, .string q, .int .i64 0] := Blk.new _ _ _
  go_enter Tryz.func92, Tryz.ntmps92
  go_wp2_with fail
  refine (KS.out _ (by (repeat' (first | (with_reducible exact Below.refl _ _) | (with_reducible assumption) | (with_reducible refine balloc ?_ _) | (with_reducible refine Below.drew ?_) | (with_reducible refine bset ?_ ?_ _) | (with_reducible refine bstep ?_ (by with_reducible assumption)) | (with_reducible refine bturn ?_ (by with_reducible assumption) ?_) | go_size)))).mono ?_
  rintro e w1 ⟨rfl, hb1⟩
  have k1 := k0.step hb1
  have hb : Below w.heap.size w w1 := by (repeat' (first | (with_reducible exact Below.refl _ _) | (with_reducible assumption) | (with_reducible refine balloc ?_ _) | (with_reducible refine Below.drew ?_) | (with_reducible refine bset ?_ ?_ _) | (with_reducible refine bstep ?_ (by with_reducible assumption)) | (with_reducible refine bturn ?_ (by with_reducible assumption) ?_) | go_size))
  clear k0
  have hlu := k1.lt; have hllu := lts hlu; have qu0 := k1.cell 0; have qu1 := k1.cell 1; have qu2 := k1.cell 2; have qu3 := k1.cell 3; have qu4 := k1.cell 4; simp at qu0 qu1 qu2 qu3 qu4; have zu0 := k1.frozen 0; have zu1 := k1.frozen 1; have zu2 := k1.frozen 2; have zu3 := k1.frozen 3; have zu4 := k1.frozen 4; have Hk1 := Lib.hid k1; clear k1
  go_wp2_with fail
  go_returns
  exact ⟨rfl, by (repeat' (first | (with_reducible exact Below.refl _ _) | (with_reducible assumption) | (with_reducible refine balloc ?_ _) | (with_reducible refine Below.drew ?_) | (with_reducible refine bset ?_ ?_ _) | (with_reducible refine bstep ?_ (by with_reducible assumption)) | (with_reducible refine bturn ?_ (by with_reducible assumption) ?_) | go_size))⟩
set_option maxHeartbeats 8000000 in
set_option maxRecDepth 100000 in
theorem vt_3t (KS : Hid (∀ W, Below w.heap.size w W → Calls Tryz.prog 48 #[.agg #[.int .i64 3, .int .i64 n, .int .i64 s, .string q, .int .i64 1]] W fun e w' => e = .returned (.bool true) ∧ Below W.heap.size W w')) :
    Calls Tryz.prog 92 #[.agg #[.int .i64 3, .int .i64 n, .int .i64 s, .string q, .int .i64 1]] w fun e w' => e = .returned (.tuple #[.string ⟨#[116, 114, 117, 101]⟩, .int .i64 0]) ∧ Below w.heap.size w w' := by
  have k0 : Blk (w.alloc (.cells #[.int .i64 3, .int .i64 n, .int .i64 s, .string q, .int .i64 1] 25)) w.heap.size 25 #[.int .i64 3, .int .i64 n, .int .i64 s, .string q, .int .i64 1] := Blk.new _ _ _
  go_enter Tryz.func92, Tryz.ntmps92
  go_wp2_with fail
  refine (KS.out _ (by (repeat' (first | (with_reducible exact Below.refl _ _) | (with_reducible assumption) | (with_reducible refine balloc ?_ _) | (with_reducible refine Below.drew ?_) | (with_reducible refine bset ?_ ?_ _) | (with_reducible refine bstep ?_ (by with_reducible assumption)) | (with_reducible refine bturn ?_ (by with_reducible assumption) ?_) | go_size)))).mono ?_
  rintro e w1 ⟨rfl, hb1⟩
  have k1 := k0.step hb1
  have hb : Below w.heap.size w w1 := by (repeat' (first | (with_reducible exact Below.refl _ _) | (with_reducible assumption) | (with_reducible refine balloc ?_ _) | (with_reducible refine Below.drew ?_) | (with_reducible refine bset ?_ ?_ _) | (with_reducible refine bstep ?_ (by with_reducible assumption)) | (with_reducible refine bturn ?_ (by with_reducible assumption) ?_) | go_size))
  clear k0
  have hlu := k1.lt; have hllu := lts hlu; have qu0 := k1.cell 0; have qu1 := k1.cell 1; have qu2 := k1.cell 2; have qu3 := k1.cell 3; have qu4 := k1.cell 4; simp at qu0 qu1 qu2 qu3 qu4; have zu0 := k1.frozen 0; have zu1 := k1.frozen 1; have zu2 := k1.frozen 2; have zu3 := k1.frozen 3; have zu4 := k1.frozen 4; have Hk1 := Lib.hid k1; clear k1
  go_wp2_with fail
  go_returns
  exact ⟨rfl, by (repeat' (first | (with_reducible exact Below.refl _ _) | (with_reducible assumption) | (with_reducible refine balloc ?_ _) | (with_reducible refine Below.drew ?_) | (with_reducible refine bset ?_ ?_ _) | (with_reducible refine bstep ?_ (by with_reducible assumption)) | (with_reducible refine bturn ?_ (by with_reducible assumption) ?_) | go_size))⟩
set_option maxHeartbeats 8000000 in
set_option maxRecDepth 100000 in
theorem vt_1 (o : ByteArray) (KS : Hid (∀ W, Below w.heap.size w W → Calls Tryz.prog 48 #[.agg #[.int .i64 1, .int .i64 n, .int .i64 s, .string q, .int .i64 m]] W fun e w' => e = .returned (.bool true) ∧ Below W.heap.size W w'))
    (KT : Hid (∀ W, Below w.heap.size w W → Calls Tryz.prog 139 #[.agg #[.int .i64 n, .int .i64 s]] W fun e w' => e = .returned (.tuple #[.string o, .int .i64 0]) ∧ Below W.heap.size W w')) :
    Calls Tryz.prog 92 #[.agg #[.int .i64 1, .int .i64 n, .int .i64 s, .string q, .int .i64 m]] w fun e w' => e = .returned (.tuple #[.string o, .int .i64 0]) ∧ Below w.heap.size w w' := by
  have k0 : Blk (w.alloc (.cells #[.int .i64 1, .int .i64 n, .int .i64 s, .string q, .int .i64 m] 25)) w.heap.size 25 #[.int .i64 1, .int .i64 n, .int .i64 s, .string q, .int .i64 m] := Blk.new _ _ _
  go_enter Tryz.func92, Tryz.ntmps92
  go_wp2_with fail
  refine (KS.out _ (by (repeat' (first | (with_reducible exact Below.refl _ _) | (with_reducible assumption) | (with_reducible refine balloc ?_ _) | (with_reducible refine Below.drew ?_) | (with_reducible refine bset ?_ ?_ _) | (with_reducible refine bstep ?_ (by with_reducible assumption)) | (with_reducible refine bturn ?_ (by with_reducible assumption) ?_) | go_size)))).mono ?_
  rintro e w1 ⟨rfl, hb1⟩
  have k1 := k0.step hb1
  have hb : Below w.heap.size w w1 := by (repeat' (first | (with_reducible exact Below.refl _ _) | (with_reducible assumption) | (with_reducible refine balloc ?_ _) | (with_reducible refine Below.drew ?_) | (with_reducible refine bset ?_ ?_ _) | (with_reducible refine bstep ?_ (by with_reducible assumption)) | (with_reducible refine bturn ?_ (by with_reducible assumption) ?_) | go_size))
  clear k0
  have hlu := k1.lt; have hllu := lts hlu; have qu0 := k1.cell 0; have qu1 := k1.cell 1; have qu2 := k1.cell 2; have qu3 := k1.cell 3; have qu4 := k1.cell 4; simp at qu0 qu1 qu2 qu3 qu4; have zu0 := k1.frozen 0; have zu1 := k1.frozen 1; have zu2 := k1.frozen 2; have zu3 := k1.frozen 3; have zu4 := k1.frozen 4; have Hk1 := Lib.hid k1; clear k1
  go_wp2_with fail
  refine (KT.out _ (by (repeat' (first | (with_reducible exact Below.refl _ _) | (with_reducible assumption) | (with_reducible refine balloc ?_ _) | (with_reducible refine Below.drew ?_) | (with_reducible refine bset ?_ ?_ _) | (with_reducible refine bstep ?_ (by with_reducible assumption)) | (with_reducible refine bturn ?_ (by with_reducible assumption) ?_) | go_size)))).mono ?_
  rintro e w2 ⟨rfl, hb2⟩
  go_wp2_with fail
  go_returns
  exact ⟨rfl, by (repeat' (first | (with_reducible exact Below.refl _ _) | (with_reducible assumption) | (with_reducible refine balloc ?_ _) | (with_reducible refine Below.drew ?_) | (with_reducible refine bset ?_ ?_ _) | (with_reducible refine bstep ?_ (by with_reducible assumption)) | (with_reducible refine bturn ?_ (by with_reducible assumption) ?_) | go_size))⟩
set_option maxHeartbeats 8000000 in
set_option maxRecDepth 100000 in
theorem vt_4 (o : ByteArray) (ho : o.size ≤ 1000) (KS : Hid (∀ W, Below w.heap.size w W → Calls Tryz.prog 48 #[.agg #[.int .i64 4, .int .i64 n, .int .i64 s, .string q, .int .i64 m]] W fun e w' => e = .returned (.bool true) ∧ Below W.heap.size W w'))
    (KT : Hid (∀ W, Below w.heap.size w W → Calls Tryz.prog 142 #[.int .i64 m] W fun e w' => e = .returned (.tuple #[.string o, .int .i64 0]) ∧ Below W.heap.size W w')) :
    Calls Tryz.prog 92 #[.agg #[.int .i64 4, .int .i64 n, .int .i64 s, .string q, .int .i64 m]] w fun e w' => e = .returned (.tuple #[.string ((⟨#[64, 34]⟩ ++ o) ++ ⟨#[34]⟩), .int .i64 0]) ∧ Below w.heap.size w w' := by
  have h1 : (2 : Nat) + o.size ≤ 9223372036854775807 := by omega
  have h2 : ((⟨#[64, 34]⟩ : ByteArray) ++ o).size + 1 ≤ 9223372036854775807 := by rw [ByteArray.size_append]; show 2 + o.size + 1 ≤ _; omega
  have h3 : (2 : Nat) + o.size + 1 ≤ 9223372036854775807 := by omega
  have k0 : Blk (w.alloc (.cells #[.int .i64 4, .int .i64 n, .int .i64 s, .string q, .int .i64 m] 25)) w.heap.size 25 #[.int .i64 4, .int .i64 n, .int .i64 s, .string q, .int .i64 m] := Blk.new _ _ _
  go_enter Tryz.func92, Tryz.ntmps92
  go_wp2_with fail
  refine (KS.out _ (by (repeat' (first | (with_reducible exact Below.refl _ _) | (with_reducible assumption) | (with_reducible refine balloc ?_ _) | (with_reducible refine Below.drew ?_) | (with_reducible refine bset ?_ ?_ _) | (with_reducible refine bstep ?_ (by with_reducible assumption)) | (with_reducible refine bturn ?_ (by with_reducible assumption) ?_) | go_size)))).mono ?_
  rintro e w1 ⟨rfl, hb1⟩
  have k1 := k0.step hb1
  have hb : Below w.heap.size w w1 := by (repeat' (first | (with_reducible exact Below.refl _ _) | (with_reducible assumption) | (with_reducible refine balloc ?_ _) | (with_reducible refine Below.drew ?_) | (with_reducible refine bset ?_ ?_ _) | (with_reducible refine bstep ?_ (by with_reducible assumption)) | (with_reducible refine bturn ?_ (by with_reducible assumption) ?_) | go_size))
  clear k0
  have hlu := k1.lt; have hllu := lts hlu; have qu0 := k1.cell 0; have qu1 := k1.cell 1; have qu2 := k1.cell 2; have qu3 := k1.cell 3; have qu4 := k1.cell 4; simp at qu0 qu1 qu2 qu3 qu4; have zu0 := k1.frozen 0; have zu1 := k1.frozen 1; have zu2 := k1.frozen 2; have zu3 := k1.frozen 3; have zu4 := k1.frozen 4; have Hk1 := Lib.hid k1; clear k1
  go_wp2_with fail
  refine (KT.out _ (by (repeat' (first | (with_reducible exact Below.refl _ _) | (with_reducible assumption) | (with_reducible refine balloc ?_ _) | (with_reducible refine Below.drew ?_) | (with_reducible refine bset ?_ ?_ _) | (with_reducible refine bstep ?_ (by with_reducible assumption)) | (with_reducible refine bturn ?_ (by with_reducible assumption) ?_) | go_size)))).mono ?_
  rintro e w2 ⟨rfl, hb2⟩
  go_wp2_with fail
  go_returns
  exact ⟨rfl, by (repeat' (first | (with_reducible exact Below.refl _ _) | (with_reducible assumption) | (with_reducible refine balloc ?_ _) | (with_reducible refine Below.drew ?_) | (with_reducible refine bset ?_ ?_ _) | (with_reducible refine bstep ?_ (by with_reducible assumption)) | (with_reducible refine bturn ?_ (by with_reducible assumption) ?_) | go_size))⟩
set_option maxHeartbeats 8000000 in
set_option maxRecDepth 100000 in
theorem vt_2 (E : ByteArray) (hq : q.size ≤ 1900000) (hE : bs (escB q.data.toList) = E) (hes : E.size ≤ 3800000) (KS : Hid (∀ W, Below w.heap.size w W → Calls Tryz.prog 48 #[.agg #[.int .i64 2, .int .i64 n, .int .i64 s, .string q, .int .i64 m]] W fun e w' => e = .returned (.bool true) ∧ Below W.heap.size W w')) :
    Calls Tryz.prog 92 #[.agg #[.int .i64 2, .int .i64 n, .int .i64 s, .string q, .int .i64 m]] w fun e w' => e = .returned (.tuple #[.string ((⟨#[34]⟩ ++ E) ++ ⟨#[34]⟩), .int .i64 0]) ∧ Below w.heap.size w w' := by
  have hes1 : 1 + E.size ≤ 9223372036854775807 := by omega
  have hes2 : ((⟨#[34]⟩ : ByteArray) ++ E).size + 1 ≤ 9223372036854775807 := by rw [ByteArray.size_append]; show 1 + E.size + 1 ≤ _; omega
  have hes3 : 1 + E.size + 1 ≤ 9223372036854775807 := by omega
  have k0 : Blk (w.alloc (.cells #[.int .i64 2, .int .i64 n, .int .i64 s, .string q, .int .i64 m] 25)) w.heap.size 25 #[.int .i64 2, .int .i64 n, .int .i64 s, .string q, .int .i64 m] := Blk.new _ _ _
  go_enter Tryz.func92, Tryz.ntmps92
  go_wp2_with fail
  refine (KS.out _ (by (repeat' (first | (with_reducible exact Below.refl _ _) | (with_reducible assumption) | (with_reducible refine balloc ?_ _) | (with_reducible refine Below.drew ?_) | (with_reducible refine bset ?_ ?_ _) | (with_reducible refine bstep ?_ (by with_reducible assumption)) | (with_reducible refine bturn ?_ (by with_reducible assumption) ?_) | go_size)))).mono ?_
  rintro e w1 ⟨rfl, hb1⟩
  have k1 := k0.step hb1
  have hb0 : Below w.heap.size w w1 := by (repeat' (first | (with_reducible exact Below.refl _ _) | (with_reducible assumption) | (with_reducible refine balloc ?_ _) | (with_reducible refine Below.drew ?_) | (with_reducible refine bset ?_ ?_ _) | (with_reducible refine bstep ?_ (by with_reducible assumption)) | (with_reducible refine bturn ?_ (by with_reducible assumption) ?_) | go_size))
  have hsz := hb0.size
  clear k0
  have K1 := Lib.hid k1
  have hlu := k1.lt; have hllu := lts hlu; have qu0 := k1.cell 0; have qu1 := k1.cell 1; have qu2 := k1.cell 2; have qu3 := k1.cell 3; have qu4 := k1.cell 4; simp at qu0 qu1 qu2 qu3 qu4; have zu0 := k1.frozen 0; have zu1 := k1.frozen 1; have zu2 := k1.frozen 2; have zu3 := k1.frozen 3; have zu4 := k1.frozen 4; have Hk1 := Lib.hid k1; clear k1
  go_wp2_with fail
  go_region_with (first
    | (go_at_call 140; refine (new_rep _ _ _ (ss_newd _ _ (by simp))).mono ?_; rintro e w' ⟨rb, rg, rc, rfl, hrb, hrs, hrl, hb⟩; have hb2 : Below w1.heap.size w1 w' := bstep (by (repeat' (first | (with_reducible exact Below.refl _ _) | (with_reducible assumption) | (with_reducible refine balloc ?_ _) | (with_reducible refine Below.drew ?_) | (with_reducible refine bset ?_ ?_ _) | (with_reducible refine bstep ?_ (by with_reducible assumption)) | (with_reducible refine bturn ?_ (by with_reducible assumption) ?_) | go_size))) hb; have q3 : w'.cell? ⟨w.heap.size, 3, none⟩ = some (.string q) := (K1.out.step hb2).cell 3; have hrl2 : w1.heap.size ≤ rb := (by simp only [World.size_alloc, World.size_drew] at hrl; omega))
    | (go_at_call 141; refine (replace_any w1.heap.size _ _ _ (by with_reducible assumption) q (by omega) _ (by have := Blk.lt hrb; omega) hrb hrs).mono ?_; rw [hE]; rintro e w' ⟨rfl, hb⟩; have hbz : Below w.heap.size w w' := hb0.trans ((hb2.trans hb).mono (by omega))))
  all_goals
    go_wp2_with fail
    go_returns
    exact ⟨rfl, (by first | exact bdrewN (by (repeat' (first | (with_reducible exact Below.refl _ _) | (with_reducible assumption) | (with_reducible refine balloc ?_ _) | (with_reducible refine Below.drew ?_) | (with_reducible refine bset ?_ ?_ _) | (with_reducible refine bstep ?_ (by with_reducible assumption)) | (with_reducible refine bturn ?_ (by with_reducible assumption) ?_) | go_size))) _ | (refine bdrewN ?_; (repeat' (first | (with_reducible exact Below.refl _ _) | (with_reducible assumption) | (with_reducible refine balloc ?_ _) | (with_reducible refine Below.drew ?_) | (with_reducible refine bset ?_ ?_ _) | (with_reducible refine bstep ?_ (by with_reducible assumption)) | (with_reducible refine bturn ?_ (by with_reducible assumption) ?_) | go_size))) | exact ⟨(show Below w.heap.size w _ by (repeat' (first | (with_reducible exact Below.refl _ _) | (with_reducible assumption) | (with_reducible refine balloc ?_ _) | (with_reducible refine Below.drew ?_) | (with_reducible refine bset ?_ ?_ _) | (with_reducible refine bstep ?_ (by with_reducible assumption)) | (with_reducible refine bturn ?_ (by with_reducible assumption) ?_) | go_size))).os, (show Below w.heap.size w _ by (repeat' (first | (with_reducible exact Below.refl _ _) | (with_reducible assumption) | (with_reducible refine balloc ?_ _) | (with_reducible refine Below.drew ?_) | (with_reducible refine bset ?_ ?_ _) | (with_reducible refine bstep ?_ (by with_reducible assumption)) | (with_reducible refine bturn ?_ (by with_reducible assumption) ?_) | go_size))).tape, (show Below w.heap.size w _ by (repeat' (first | (with_reducible exact Below.refl _ _) | (with_reducible assumption) | (with_reducible refine balloc ?_ _) | (with_reducible refine Below.drew ?_) | (with_reducible refine bset ?_ ?_ _) | (with_reducible refine bstep ?_ (by with_reducible assumption)) | (with_reducible refine bturn ?_ (by with_reducible assumption) ?_) | go_size))).output, (show Below w.heap.size w _ by (repeat' (first | (with_reducible exact Below.refl _ _) | (with_reducible assumption) | (with_reducible refine balloc ?_ _) | (with_reducible refine Below.drew ?_) | (with_reducible refine bset ?_ ?_ _) | (with_reducible refine bstep ?_ (by with_reducible assumption)) | (with_reducible refine bturn ?_ (by with_reducible assumption) ?_) | go_size))).size, (show Below w.heap.size w _ by (repeat' (first | (with_reducible exact Below.refl _ _) | (with_reducible assumption) | (with_reducible refine balloc ?_ _) | (with_reducible refine Below.drew ?_) | (with_reducible refine bset ?_ ?_ _) | (with_reducible refine bstep ?_ (by with_reducible assumption)) | (with_reducible refine bturn ?_ (by with_reducible assumption) ?_) | go_size))).block⟩)⟩
end
/-- What value.Text writes for a sound value. -/
theorem vtext_any (v : Vl) (hv : vSound v) (m : Int) (w : World) (hw : OKW m w) :
    Calls Tryz.prog 92 #[.agg (cellsV v)] w fun e w' => e = .returned (.tuple #[.string (bs (vtxt v)), .int .i64 0]) ∧ Below w.heap.size w w' := by
  have KS : Hid (∀ W, Below w.heap.size w W → Calls Tryz.prog 48 #[.agg (cellsV v)] W fun e w' => e = .returned (.bool true) ∧ Below W.heap.size W w') := Lib.hid fun W hb => by
    have := vs_any v.k v.n v.s (bs v.t) v.m (vs_ok hv).n (vs_ok hv).s m W (hw.step hb)
    rw [(vs_iff v).2 hv] at this
    exact this
  obtain ⟨k, n, s, t, mm⟩ := v
  rcases hv with h | h | h | h | h
  · obtain ⟨h0, _⟩ := h
    simp only at h0
    subst h0
    exact vt_0 n s mm (bs t) w KS
  · obtain ⟨h0, h1, _⟩ := h
    simp only at h0 h1
    subst h0
    obtain ⟨b1, b2, b3, b4, _⟩ := sound_bd h1
    have e1 : (dT n s).2 = 0 := by unfold dT; rw [if_pos h1]
    refine vt_1 n s mm (bs t) w (bs (dT n s).1) KS (Lib.hid fun W hb => ?_)
    have := dtext n s ⟨by omega, by omega⟩ ⟨by omega, by omega⟩ W (hw.step hb).tab
    rw [e1] at this
    exact this
  · obtain ⟨h0, _, _, _, h1, _⟩ := h
    simp only at h0 h1
    subst h0
    have h2 := escB_two t
    have hd : (bs t).data.toList = t := rfl
    have := vt_2 n s mm (bs t) w (bs (escB t)) (by rw [bs_size]; omega) (by rw [hd]) (by rw [bs_size]; omega) KS
    have e : ((⟨#[34]⟩ : ByteArray) ++ bs (escB t)) ++ ⟨#[34]⟩ = bs (34 :: (escB t ++ [34])) := by
      rw [show (⟨#[34]⟩ : ByteArray) = bs [34] from rfl, bs_app, bs_app]
      rfl
    rw [e] at this
    exact this
  · obtain ⟨h0, _, _, _, h1⟩ := h
    simp only at h0 h1
    subst h0
    rcases h1 with rfl | rfl
    · exact vt_3f n s (bs t) w KS
    · exact vt_3t n s (bs t) w KS
  · obtain ⟨h0, _, _, _, h1, h2⟩ := h
    simp only at h0 h1 h2
    subst h0
    obtain ⟨hl, hy, _⟩ := yT_spec mm
    have e1 : (yT mm).2 = 0 := by
      obtain ⟨l, _, _, lt, _⟩ := Days.text_read mm h1 h2
      exact (yT_eq m w hw mm (lt w hw.tab)).2
    have := vt_4 n s mm (bs t) w (bs (yT mm).1) (by rw [bs_size]; omega) KS (Lib.hid fun W hb => by
      have := hy W (hw.step hb).tab
      rw [e1] at this
      exact this)
    have e : ((⟨#[64, 34]⟩ : ByteArray) ++ bs (yT mm).1) ++ ⟨#[34]⟩ = bs (64 :: 34 :: ((yT mm).1 ++ [34])) := by
      rw [show (⟨#[64, 34]⟩ : ByteArray) = bs [64, 34] from rfl, show (⟨#[34]⟩ : ByteArray) = bs [34] from rfl, bs_app, bs_app]
      rfl
    rw [e] at this
    exact this
end Go.Proofs.YtkkeplmaphcblaaGreatDoor

namespace Go.Proofs.YtkkeplmaphcblaaGreatDoor
open Go.RowKit Go.Shelf

section
variable (lk ln ls lm xk xn xs xm : Int) (lq xq : ByteArray) (w : World) (lo hi : ByteArray)
set_option maxHeartbeats 8000000 in
set_option maxRecDepth 100000 in
theorem wr_1 (ol oh : Bool) (KT : Hid (∀ W, Below w.heap.size w W → Calls Tryz.prog 92 #[.agg #[.int .i64 lk, .int .i64 ln, .int .i64 ls, .string lq, .int .i64 lm]] W fun e w' => e = .returned (.tuple #[.string lo, .int .i64 0]) ∧ Below W.heap.size W w')) :
    Calls Tryz.prog 56 #[.agg #[.int .i64 1, .int .i64 lk, .int .i64 ln, .int .i64 ls, .string lq, .int .i64 lm, .int .i64 xk, .int .i64 xn, .int .i64 xs, .string xq, .int .i64 xm, .bool ol, .bool oh]] w fun e w' => e = .returned (.string (lo)) ∧ Below w.heap.size w w' := by
  have k0 : Blk (w.alloc (.cells #[.int .i64 1, .int .i64 lk, .int .i64 ln, .int .i64 ls, .string lq, .int .i64 lm, .int .i64 xk, .int .i64 xn, .int .i64 xs, .string xq, .int .i64 xm, .bool ol, .bool oh] 82)) w.heap.size 82 #[.int .i64 1, .int .i64 lk, .int .i64 ln, .int .i64 ls, .string lq, .int .i64 lm, .int .i64 xk, .int .i64 xn, .int .i64 xs, .string xq, .int .i64 xm, .bool ol, .bool oh] := Blk.new _ _ _
  go_enter Tryz.func56, Tryz.ntmps56
  go_wp2_with fail
  refine (KT.out _ (by (repeat' (first | (with_reducible exact Below.refl _ _) | (with_reducible assumption) | (with_reducible refine balloc ?_ _) | (with_reducible refine Below.drew ?_) | (with_reducible refine bset ?_ ?_ _) | (with_reducible refine bstep ?_ (by with_reducible assumption)) | (with_reducible refine bturn ?_ (by with_reducible assumption) ?_) | go_size)))).mono ?_
  rintro e w1 ⟨rfl, hb1⟩
  have k1 := k0.step hb1
  have hb : Below w.heap.size w w1 := by (repeat' (first | (with_reducible exact Below.refl _ _) | (with_reducible assumption) | (with_reducible refine balloc ?_ _) | (with_reducible refine Below.drew ?_) | (with_reducible refine bset ?_ ?_ _) | (with_reducible refine bstep ?_ (by with_reducible assumption)) | (with_reducible refine bturn ?_ (by with_reducible assumption) ?_) | go_size))
  clear k0 hb1
  have hlu := k1.lt; have hllu := lts hlu; have qu0 := k1.cell 0; have qu1 := k1.cell 1; have qu2 := k1.cell 2; have qu3 := k1.cell 3; have qu4 := k1.cell 4; have qu5 := k1.cell 5; have qu6 := k1.cell 6; have qu7 := k1.cell 7; have qu8 := k1.cell 8; have qu9 := k1.cell 9; have qu10 := k1.cell 10; have qu11 := k1.cell 11; have qu12 := k1.cell 12; simp at qu0 qu1 qu2 qu3 qu4 qu5 qu6 qu7 qu8 qu9 qu10 qu11 qu12; have zu0 := k1.frozen 0; have zu1 := k1.frozen 1; have zu2 := k1.frozen 2; have zu3 := k1.frozen 3; have zu4 := k1.frozen 4; have zu5 := k1.frozen 5; have zu6 := k1.frozen 6; have zu7 := k1.frozen 7; have zu8 := k1.frozen 8; have zu9 := k1.frozen 9; have zu10 := k1.frozen 10; have zu11 := k1.frozen 11; have zu12 := k1.frozen 12; have Hk1 := Lib.hid k1; clear k1
  go_wp2_with fail
  go_returns
  exact ⟨rfl, by (repeat' (first | (with_reducible exact Below.refl _ _) | (with_reducible assumption) | (with_reducible refine balloc ?_ _) | (with_reducible refine Below.drew ?_) | (with_reducible refine bset ?_ ?_ _) | (with_reducible refine bstep ?_ (by with_reducible assumption)) | (with_reducible refine bturn ?_ (by with_reducible assumption) ?_) | go_size))⟩
set_option maxHeartbeats 8000000 in
set_option maxRecDepth 100000 in
theorem wr_2 (ol oh : Bool) (hl : lo.size ≤ 1000) (KT : Hid (∀ W, Below w.heap.size w W → Calls Tryz.prog 92 #[.agg #[.int .i64 lk, .int .i64 ln, .int .i64 ls, .string lq, .int .i64 lm]] W fun e w' => e = .returned (.tuple #[.string lo, .int .i64 0]) ∧ Below W.heap.size W w')) :
    Calls Tryz.prog 56 #[.agg #[.int .i64 2, .int .i64 lk, .int .i64 ln, .int .i64 ls, .string lq, .int .i64 lm, .int .i64 xk, .int .i64 xn, .int .i64 xs, .string xq, .int .i64 xm, .bool ol, .bool oh]] w fun e w' => e = .returned (.string (⟨#[60, 32]⟩ ++ lo)) ∧ Below w.heap.size w w' := by
  have hl1 : 2 + lo.size ≤ 9223372036854775807 := by omega
  have k0 : Blk (w.alloc (.cells #[.int .i64 2, .int .i64 lk, .int .i64 ln, .int .i64 ls, .string lq, .int .i64 lm, .int .i64 xk, .int .i64 xn, .int .i64 xs, .string xq, .int .i64 xm, .bool ol, .bool oh] 82)) w.heap.size 82 #[.int .i64 2, .int .i64 lk, .int .i64 ln, .int .i64 ls, .string lq, .int .i64 lm, .int .i64 xk, .int .i64 xn, .int .i64 xs, .string xq, .int .i64 xm, .bool ol, .bool oh] := Blk.new _ _ _
  go_enter Tryz.func56, Tryz.ntmps56
  go_wp2_with fail
  refine (KT.out _ (by (repeat' (first | (with_reducible exact Below.refl _ _) | (with_reducible assumption) | (with_reducible refine balloc ?_ _) | (with_reducible refine Below.drew ?_) | (with_reducible refine bset ?_ ?_ _) | (with_reducible refine bstep ?_ (by with_reducible assumption)) | (with_reducible refine bturn ?_ (by with_reducible assumption) ?_) | go_size)))).mono ?_
  rintro e w1 ⟨rfl, hb1⟩
  have k1 := k0.step hb1
  have hb : Below w.heap.size w w1 := by (repeat' (first | (with_reducible exact Below.refl _ _) | (with_reducible assumption) | (with_reducible refine balloc ?_ _) | (with_reducible refine Below.drew ?_) | (with_reducible refine bset ?_ ?_ _) | (with_reducible refine bstep ?_ (by with_reducible assumption)) | (with_reducible refine bturn ?_ (by with_reducible assumption) ?_) | go_size))
  clear k0 hb1
  have hlu := k1.lt; have hllu := lts hlu; have qu0 := k1.cell 0; have qu1 := k1.cell 1; have qu2 := k1.cell 2; have qu3 := k1.cell 3; have qu4 := k1.cell 4; have qu5 := k1.cell 5; have qu6 := k1.cell 6; have qu7 := k1.cell 7; have qu8 := k1.cell 8; have qu9 := k1.cell 9; have qu10 := k1.cell 10; have qu11 := k1.cell 11; have qu12 := k1.cell 12; simp at qu0 qu1 qu2 qu3 qu4 qu5 qu6 qu7 qu8 qu9 qu10 qu11 qu12; have zu0 := k1.frozen 0; have zu1 := k1.frozen 1; have zu2 := k1.frozen 2; have zu3 := k1.frozen 3; have zu4 := k1.frozen 4; have zu5 := k1.frozen 5; have zu6 := k1.frozen 6; have zu7 := k1.frozen 7; have zu8 := k1.frozen 8; have zu9 := k1.frozen 9; have zu10 := k1.frozen 10; have zu11 := k1.frozen 11; have zu12 := k1.frozen 12; have Hk1 := Lib.hid k1; clear k1
  go_wp2_with fail
  go_returns
  exact ⟨rfl, by (repeat' (first | (with_reducible exact Below.refl _ _) | (with_reducible assumption) | (with_reducible refine balloc ?_ _) | (with_reducible refine Below.drew ?_) | (with_reducible refine bset ?_ ?_ _) | (with_reducible refine bstep ?_ (by with_reducible assumption)) | (with_reducible refine bturn ?_ (by with_reducible assumption) ?_) | go_size))⟩
set_option maxHeartbeats 8000000 in
set_option maxRecDepth 100000 in
theorem wr_3 (ol oh : Bool) (hl : lo.size ≤ 1000) (KT : Hid (∀ W, Below w.heap.size w W → Calls Tryz.prog 92 #[.agg #[.int .i64 lk, .int .i64 ln, .int .i64 ls, .string lq, .int .i64 lm]] W fun e w' => e = .returned (.tuple #[.string lo, .int .i64 0]) ∧ Below W.heap.size W w')) :
    Calls Tryz.prog 56 #[.agg #[.int .i64 3, .int .i64 lk, .int .i64 ln, .int .i64 ls, .string lq, .int .i64 lm, .int .i64 xk, .int .i64 xn, .int .i64 xs, .string xq, .int .i64 xm, .bool ol, .bool oh]] w fun e w' => e = .returned (.string (⟨#[60, 61, 32]⟩ ++ lo)) ∧ Below w.heap.size w w' := by
  have hl1 : 3 + lo.size ≤ 9223372036854775807 := by omega
  have k0 : Blk (w.alloc (.cells #[.int .i64 3, .int .i64 lk, .int .i64 ln, .int .i64 ls, .string lq, .int .i64 lm, .int .i64 xk, .int .i64 xn, .int .i64 xs, .string xq, .int .i64 xm, .bool ol, .bool oh] 82)) w.heap.size 82 #[.int .i64 3, .int .i64 lk, .int .i64 ln, .int .i64 ls, .string lq, .int .i64 lm, .int .i64 xk, .int .i64 xn, .int .i64 xs, .string xq, .int .i64 xm, .bool ol, .bool oh] := Blk.new _ _ _
  go_enter Tryz.func56, Tryz.ntmps56
  go_wp2_with fail
  refine (KT.out _ (by (repeat' (first | (with_reducible exact Below.refl _ _) | (with_reducible assumption) | (with_reducible refine balloc ?_ _) | (with_reducible refine Below.drew ?_) | (with_reducible refine bset ?_ ?_ _) | (with_reducible refine bstep ?_ (by with_reducible assumption)) | (with_reducible refine bturn ?_ (by with_reducible assumption) ?_) | go_size)))).mono ?_
  rintro e w1 ⟨rfl, hb1⟩
  have k1 := k0.step hb1
  have hb : Below w.heap.size w w1 := by (repeat' (first | (with_reducible exact Below.refl _ _) | (with_reducible assumption) | (with_reducible refine balloc ?_ _) | (with_reducible refine Below.drew ?_) | (with_reducible refine bset ?_ ?_ _) | (with_reducible refine bstep ?_ (by with_reducible assumption)) | (with_reducible refine bturn ?_ (by with_reducible assumption) ?_) | go_size))
  clear k0 hb1
  have hlu := k1.lt; have hllu := lts hlu; have qu0 := k1.cell 0; have qu1 := k1.cell 1; have qu2 := k1.cell 2; have qu3 := k1.cell 3; have qu4 := k1.cell 4; have qu5 := k1.cell 5; have qu6 := k1.cell 6; have qu7 := k1.cell 7; have qu8 := k1.cell 8; have qu9 := k1.cell 9; have qu10 := k1.cell 10; have qu11 := k1.cell 11; have qu12 := k1.cell 12; simp at qu0 qu1 qu2 qu3 qu4 qu5 qu6 qu7 qu8 qu9 qu10 qu11 qu12; have zu0 := k1.frozen 0; have zu1 := k1.frozen 1; have zu2 := k1.frozen 2; have zu3 := k1.frozen 3; have zu4 := k1.frozen 4; have zu5 := k1.frozen 5; have zu6 := k1.frozen 6; have zu7 := k1.frozen 7; have zu8 := k1.frozen 8; have zu9 := k1.frozen 9; have zu10 := k1.frozen 10; have zu11 := k1.frozen 11; have zu12 := k1.frozen 12; have Hk1 := Lib.hid k1; clear k1
  go_wp2_with fail
  go_returns
  exact ⟨rfl, by (repeat' (first | (with_reducible exact Below.refl _ _) | (with_reducible assumption) | (with_reducible refine balloc ?_ _) | (with_reducible refine Below.drew ?_) | (with_reducible refine bset ?_ ?_ _) | (with_reducible refine bstep ?_ (by with_reducible assumption)) | (with_reducible refine bturn ?_ (by with_reducible assumption) ?_) | go_size))⟩
set_option maxHeartbeats 8000000 in
set_option maxRecDepth 100000 in
theorem wr_4 (ol oh : Bool) (hl : lo.size ≤ 1000) (KT : Hid (∀ W, Below w.heap.size w W → Calls Tryz.prog 92 #[.agg #[.int .i64 lk, .int .i64 ln, .int .i64 ls, .string lq, .int .i64 lm]] W fun e w' => e = .returned (.tuple #[.string lo, .int .i64 0]) ∧ Below W.heap.size W w')) :
    Calls Tryz.prog 56 #[.agg #[.int .i64 4, .int .i64 lk, .int .i64 ln, .int .i64 ls, .string lq, .int .i64 lm, .int .i64 xk, .int .i64 xn, .int .i64 xs, .string xq, .int .i64 xm, .bool ol, .bool oh]] w fun e w' => e = .returned (.string (⟨#[62, 32]⟩ ++ lo)) ∧ Below w.heap.size w w' := by
  have hl1 : 2 + lo.size ≤ 9223372036854775807 := by omega
  have k0 : Blk (w.alloc (.cells #[.int .i64 4, .int .i64 lk, .int .i64 ln, .int .i64 ls, .string lq, .int .i64 lm, .int .i64 xk, .int .i64 xn, .int .i64 xs, .string xq, .int .i64 xm, .bool ol, .bool oh] 82)) w.heap.size 82 #[.int .i64 4, .int .i64 lk, .int .i64 ln, .int .i64 ls, .string lq, .int .i64 lm, .int .i64 xk, .int .i64 xn, .int .i64 xs, .string xq, .int .i64 xm, .bool ol, .bool oh] := Blk.new _ _ _
  go_enter Tryz.func56, Tryz.ntmps56
  go_wp2_with fail
  refine (KT.out _ (by (repeat' (first | (with_reducible exact Below.refl _ _) | (with_reducible assumption) | (with_reducible refine balloc ?_ _) | (with_reducible refine Below.drew ?_) | (with_reducible refine bset ?_ ?_ _) | (with_reducible refine bstep ?_ (by with_reducible assumption)) | (with_reducible refine bturn ?_ (by with_reducible assumption) ?_) | go_size)))).mono ?_
  rintro e w1 ⟨rfl, hb1⟩
  have k1 := k0.step hb1
  have hb : Below w.heap.size w w1 := by (repeat' (first | (with_reducible exact Below.refl _ _) | (with_reducible assumption) | (with_reducible refine balloc ?_ _) | (with_reducible refine Below.drew ?_) | (with_reducible refine bset ?_ ?_ _) | (with_reducible refine bstep ?_ (by with_reducible assumption)) | (with_reducible refine bturn ?_ (by with_reducible assumption) ?_) | go_size))
  clear k0 hb1
  have hlu := k1.lt; have hllu := lts hlu; have qu0 := k1.cell 0; have qu1 := k1.cell 1; have qu2 := k1.cell 2; have qu3 := k1.cell 3; have qu4 := k1.cell 4; have qu5 := k1.cell 5; have qu6 := k1.cell 6; have qu7 := k1.cell 7; have qu8 := k1.cell 8; have qu9 := k1.cell 9; have qu10 := k1.cell 10; have qu11 := k1.cell 11; have qu12 := k1.cell 12; simp at qu0 qu1 qu2 qu3 qu4 qu5 qu6 qu7 qu8 qu9 qu10 qu11 qu12; have zu0 := k1.frozen 0; have zu1 := k1.frozen 1; have zu2 := k1.frozen 2; have zu3 := k1.frozen 3; have zu4 := k1.frozen 4; have zu5 := k1.frozen 5; have zu6 := k1.frozen 6; have zu7 := k1.frozen 7; have zu8 := k1.frozen 8; have zu9 := k1.frozen 9; have zu10 := k1.frozen 10; have zu11 := k1.frozen 11; have zu12 := k1.frozen 12; have Hk1 := Lib.hid k1; clear k1
  go_wp2_with fail
  go_returns
  exact ⟨rfl, by (repeat' (first | (with_reducible exact Below.refl _ _) | (with_reducible assumption) | (with_reducible refine balloc ?_ _) | (with_reducible refine Below.drew ?_) | (with_reducible refine bset ?_ ?_ _) | (with_reducible refine bstep ?_ (by with_reducible assumption)) | (with_reducible refine bturn ?_ (by with_reducible assumption) ?_) | go_size))⟩
set_option maxHeartbeats 8000000 in
set_option maxRecDepth 100000 in
theorem wr_5 (ol oh : Bool) (hl : lo.size ≤ 1000) (KT : Hid (∀ W, Below w.heap.size w W → Calls Tryz.prog 92 #[.agg #[.int .i64 lk, .int .i64 ln, .int .i64 ls, .string lq, .int .i64 lm]] W fun e w' => e = .returned (.tuple #[.string lo, .int .i64 0]) ∧ Below W.heap.size W w')) :
    Calls Tryz.prog 56 #[.agg #[.int .i64 5, .int .i64 lk, .int .i64 ln, .int .i64 ls, .string lq, .int .i64 lm, .int .i64 xk, .int .i64 xn, .int .i64 xs, .string xq, .int .i64 xm, .bool ol, .bool oh]] w fun e w' => e = .returned (.string (⟨#[62, 61, 32]⟩ ++ lo)) ∧ Below w.heap.size w w' := by
  have hl1 : 3 + lo.size ≤ 9223372036854775807 := by omega
  have k0 : Blk (w.alloc (.cells #[.int .i64 5, .int .i64 lk, .int .i64 ln, .int .i64 ls, .string lq, .int .i64 lm, .int .i64 xk, .int .i64 xn, .int .i64 xs, .string xq, .int .i64 xm, .bool ol, .bool oh] 82)) w.heap.size 82 #[.int .i64 5, .int .i64 lk, .int .i64 ln, .int .i64 ls, .string lq, .int .i64 lm, .int .i64 xk, .int .i64 xn, .int .i64 xs, .string xq, .int .i64 xm, .bool ol, .bool oh] := Blk.new _ _ _
  go_enter Tryz.func56, Tryz.ntmps56
  go_wp2_with fail
  refine (KT.out _ (by (repeat' (first | (with_reducible exact Below.refl _ _) | (with_reducible assumption) | (with_reducible refine balloc ?_ _) | (with_reducible refine Below.drew ?_) | (with_reducible refine bset ?_ ?_ _) | (with_reducible refine bstep ?_ (by with_reducible assumption)) | (with_reducible refine bturn ?_ (by with_reducible assumption) ?_) | go_size)))).mono ?_
  rintro e w1 ⟨rfl, hb1⟩
  have k1 := k0.step hb1
  have hb : Below w.heap.size w w1 := by (repeat' (first | (with_reducible exact Below.refl _ _) | (with_reducible assumption) | (with_reducible refine balloc ?_ _) | (with_reducible refine Below.drew ?_) | (with_reducible refine bset ?_ ?_ _) | (with_reducible refine bstep ?_ (by with_reducible assumption)) | (with_reducible refine bturn ?_ (by with_reducible assumption) ?_) | go_size))
  clear k0 hb1
  have hlu := k1.lt; have hllu := lts hlu; have qu0 := k1.cell 0; have qu1 := k1.cell 1; have qu2 := k1.cell 2; have qu3 := k1.cell 3; have qu4 := k1.cell 4; have qu5 := k1.cell 5; have qu6 := k1.cell 6; have qu7 := k1.cell 7; have qu8 := k1.cell 8; have qu9 := k1.cell 9; have qu10 := k1.cell 10; have qu11 := k1.cell 11; have qu12 := k1.cell 12; simp at qu0 qu1 qu2 qu3 qu4 qu5 qu6 qu7 qu8 qu9 qu10 qu11 qu12; have zu0 := k1.frozen 0; have zu1 := k1.frozen 1; have zu2 := k1.frozen 2; have zu3 := k1.frozen 3; have zu4 := k1.frozen 4; have zu5 := k1.frozen 5; have zu6 := k1.frozen 6; have zu7 := k1.frozen 7; have zu8 := k1.frozen 8; have zu9 := k1.frozen 9; have zu10 := k1.frozen 10; have zu11 := k1.frozen 11; have zu12 := k1.frozen 12; have Hk1 := Lib.hid k1; clear k1
  go_wp2_with fail
  go_returns
  exact ⟨rfl, by (repeat' (first | (with_reducible exact Below.refl _ _) | (with_reducible assumption) | (with_reducible refine balloc ?_ _) | (with_reducible refine Below.drew ?_) | (with_reducible refine bset ?_ ?_ _) | (with_reducible refine bstep ?_ (by with_reducible assumption)) | (with_reducible refine bturn ?_ (by with_reducible assumption) ?_) | go_size))⟩
set_option maxHeartbeats 8000000 in
set_option maxRecDepth 100000 in
theorem wr_6ff (hl : lo.size ≤ 1000) (hh : hi.size ≤ 1000) (KT : Hid (∀ W, Below w.heap.size w W → Calls Tryz.prog 92 #[.agg #[.int .i64 lk, .int .i64 ln, .int .i64 ls, .string lq, .int .i64 lm]] W fun e w' => e = .returned (.tuple #[.string lo, .int .i64 0]) ∧ Below W.heap.size W w')) (KH : Hid (∀ W, Below w.heap.size w W → Calls Tryz.prog 92 #[.agg #[.int .i64 xk, .int .i64 xn, .int .i64 xs, .string xq, .int .i64 xm]] W fun e w' => e = .returned (.tuple #[.string hi, .int .i64 0]) ∧ Below W.heap.size W w')) :
    Calls Tryz.prog 56 #[.agg #[.int .i64 6, .int .i64 lk, .int .i64 ln, .int .i64 ls, .string lq, .int .i64 lm, .int .i64 xk, .int .i64 xn, .int .i64 xs, .string xq, .int .i64 xm, .bool false, .bool false]] w fun e w' => e = .returned (.string (((((⟨#[91]⟩ ++ lo) ++ ⟨#[46, 46]⟩) ++ hi) ++ ⟨#[93]⟩))) ∧ Below w.heap.size w w' := by
  have e1 : 1 + lo.size ≤ 9223372036854775807 := by omega
  have e2 : ((⟨#[91]⟩ : ByteArray) ++ lo).size + 2 ≤ 9223372036854775807 := by rw [ByteArray.size_append]; show 1 + lo.size + 2 ≤ _; omega
  have e3 : (((⟨#[91]⟩ : ByteArray) ++ lo) ++ ⟨#[46, 46]⟩).size + hi.size ≤ 9223372036854775807 := by rw [ByteArray.size_append, ByteArray.size_append]; show 1 + lo.size + 2 + hi.size ≤ _; omega
  have e4 : ((((⟨#[91]⟩ : ByteArray) ++ lo) ++ ⟨#[46, 46]⟩) ++ hi).size + 1 ≤ 9223372036854775807 := by rw [ByteArray.size_append, ByteArray.size_append, ByteArray.size_append]; show 1 + lo.size + 2 + hi.size + 1 ≤ _; omega
  have f2 : 1 + lo.size + 2 ≤ 9223372036854775807 := by omega
  have f3 : 1 + lo.size + 2 + hi.size ≤ 9223372036854775807 := by omega
  have f4 : 1 + lo.size + 2 + hi.size + 1 ≤ 9223372036854775807 := by omega
  have k0 : Blk (w.alloc (.cells #[.int .i64 6, .int .i64 lk, .int .i64 ln, .int .i64 ls, .string lq, .int .i64 lm, .int .i64 xk, .int .i64 xn, .int .i64 xs, .string xq, .int .i64 xm, .bool false, .bool false] 82)) w.heap.size 82 #[.int .i64 6, .int .i64 lk, .int .i64 ln, .int .i64 ls, .string lq, .int .i64 lm, .int .i64 xk, .int .i64 xn, .int .i64 xs, .string xq, .int .i64 xm, .bool false, .bool false] := Blk.new _ _ _
  go_enter Tryz.func56, Tryz.ntmps56
  go_wp2_with fail
  refine (KT.out _ (by (repeat' (first | (with_reducible exact Below.refl _ _) | (with_reducible assumption) | (with_reducible refine balloc ?_ _) | (with_reducible refine Below.drew ?_) | (with_reducible refine bset ?_ ?_ _) | (with_reducible refine bstep ?_ (by with_reducible assumption)) | (with_reducible refine bturn ?_ (by with_reducible assumption) ?_) | go_size)))).mono ?_
  rintro e w1 ⟨rfl, hb1⟩
  have k1 := k0.step hb1
  have hb : Below w.heap.size w w1 := by (repeat' (first | (with_reducible exact Below.refl _ _) | (with_reducible assumption) | (with_reducible refine balloc ?_ _) | (with_reducible refine Below.drew ?_) | (with_reducible refine bset ?_ ?_ _) | (with_reducible refine bstep ?_ (by with_reducible assumption)) | (with_reducible refine bturn ?_ (by with_reducible assumption) ?_) | go_size))
  clear k0 hb1
  have K1 := Lib.hid k1
  have hlu := k1.lt; have hllu := lts hlu; have qu0 := k1.cell 0; have qu1 := k1.cell 1; have qu2 := k1.cell 2; have qu3 := k1.cell 3; have qu4 := k1.cell 4; have qu5 := k1.cell 5; have qu6 := k1.cell 6; have qu7 := k1.cell 7; have qu8 := k1.cell 8; have qu9 := k1.cell 9; have qu10 := k1.cell 10; have qu11 := k1.cell 11; have qu12 := k1.cell 12; simp at qu0 qu1 qu2 qu3 qu4 qu5 qu6 qu7 qu8 qu9 qu10 qu11 qu12; have zu0 := k1.frozen 0; have zu1 := k1.frozen 1; have zu2 := k1.frozen 2; have zu3 := k1.frozen 3; have zu4 := k1.frozen 4; have zu5 := k1.frozen 5; have zu6 := k1.frozen 6; have zu7 := k1.frozen 7; have zu8 := k1.frozen 8; have zu9 := k1.frozen 9; have zu10 := k1.frozen 10; have zu11 := k1.frozen 11; have zu12 := k1.frozen 12; have Hk1 := Lib.hid k1; clear k1
  go_wp2_with fail
  refine (KH.out _ (by (repeat' (first | (with_reducible exact Below.refl _ _) | (with_reducible assumption) | (with_reducible refine balloc ?_ _) | (with_reducible refine Below.drew ?_) | (with_reducible refine bset ?_ ?_ _) | (with_reducible refine bstep ?_ (by with_reducible assumption)) | (with_reducible refine bturn ?_ (by with_reducible assumption) ?_) | go_size)))).mono ?_
  rintro e w2 ⟨rfl, hb2⟩
  have k2 := K1.out.step hb2
  have hb02 : Below w.heap.size w w2 := by (repeat' (first | (with_reducible exact Below.refl _ _) | (with_reducible assumption) | (with_reducible refine balloc ?_ _) | (with_reducible refine Below.drew ?_) | (with_reducible refine bset ?_ ?_ _) | (with_reducible refine bstep ?_ (by with_reducible assumption)) | (with_reducible refine bturn ?_ (by with_reducible assumption) ?_) | go_size))
  clear qu0 qu1 qu2 qu3 qu4 qu5 qu6 qu7 qu8 qu9 qu10 qu11 qu12 zu0 zu1 zu2 zu3 zu4 zu5 zu6 zu7 zu8 zu9 zu10 zu11 zu12 hlu hllu hb2
  have hlu := k2.lt; have hllu := lts hlu; have qu0 := k2.cell 0; have qu1 := k2.cell 1; have qu2 := k2.cell 2; have qu3 := k2.cell 3; have qu4 := k2.cell 4; have qu5 := k2.cell 5; have qu6 := k2.cell 6; have qu7 := k2.cell 7; have qu8 := k2.cell 8; have qu9 := k2.cell 9; have qu10 := k2.cell 10; have qu11 := k2.cell 11; have qu12 := k2.cell 12; simp at qu0 qu1 qu2 qu3 qu4 qu5 qu6 qu7 qu8 qu9 qu10 qu11 qu12; have zu0 := k2.frozen 0; have zu1 := k2.frozen 1; have zu2 := k2.frozen 2; have zu3 := k2.frozen 3; have zu4 := k2.frozen 4; have zu5 := k2.frozen 5; have zu6 := k2.frozen 6; have zu7 := k2.frozen 7; have zu8 := k2.frozen 8; have zu9 := k2.frozen 9; have zu10 := k2.frozen 10; have zu11 := k2.frozen 11; have zu12 := k2.frozen 12; have Hk2 := Lib.hid k2; clear k2
  go_wp2_with fail
  go_returns
  exact ⟨rfl, by (repeat' (first | (with_reducible exact Below.refl _ _) | (with_reducible assumption) | (with_reducible refine balloc ?_ _) | (with_reducible refine Below.drew ?_) | (with_reducible refine bset ?_ ?_ _) | (with_reducible refine bstep ?_ (by with_reducible assumption)) | (with_reducible refine bturn ?_ (by with_reducible assumption) ?_) | go_size))⟩
set_option maxHeartbeats 8000000 in
set_option maxRecDepth 100000 in
theorem wr_6ft (hl : lo.size ≤ 1000) (hh : hi.size ≤ 1000) (KT : Hid (∀ W, Below w.heap.size w W → Calls Tryz.prog 92 #[.agg #[.int .i64 lk, .int .i64 ln, .int .i64 ls, .string lq, .int .i64 lm]] W fun e w' => e = .returned (.tuple #[.string lo, .int .i64 0]) ∧ Below W.heap.size W w')) (KH : Hid (∀ W, Below w.heap.size w W → Calls Tryz.prog 92 #[.agg #[.int .i64 xk, .int .i64 xn, .int .i64 xs, .string xq, .int .i64 xm]] W fun e w' => e = .returned (.tuple #[.string hi, .int .i64 0]) ∧ Below W.heap.size W w')) :
    Calls Tryz.prog 56 #[.agg #[.int .i64 6, .int .i64 lk, .int .i64 ln, .int .i64 ls, .string lq, .int .i64 lm, .int .i64 xk, .int .i64 xn, .int .i64 xs, .string xq, .int .i64 xm, .bool false, .bool true]] w fun e w' => e = .returned (.string (((((⟨#[91]⟩ ++ lo) ++ ⟨#[46, 46]⟩) ++ hi) ++ ⟨#[41]⟩))) ∧ Below w.heap.size w w' := by
  have e1 : 1 + lo.size ≤ 9223372036854775807 := by omega
  have e2 : ((⟨#[91]⟩ : ByteArray) ++ lo).size + 2 ≤ 9223372036854775807 := by rw [ByteArray.size_append]; show 1 + lo.size + 2 ≤ _; omega
  have e3 : (((⟨#[91]⟩ : ByteArray) ++ lo) ++ ⟨#[46, 46]⟩).size + hi.size ≤ 9223372036854775807 := by rw [ByteArray.size_append, ByteArray.size_append]; show 1 + lo.size + 2 + hi.size ≤ _; omega
  have e4 : ((((⟨#[91]⟩ : ByteArray) ++ lo) ++ ⟨#[46, 46]⟩) ++ hi).size + 1 ≤ 9223372036854775807 := by rw [ByteArray.size_append, ByteArray.size_append, ByteArray.size_append]; show 1 + lo.size + 2 + hi.size + 1 ≤ _; omega
  have f2 : 1 + lo.size + 2 ≤ 9223372036854775807 := by omega
  have f3 : 1 + lo.size + 2 + hi.size ≤ 9223372036854775807 := by omega
  have f4 : 1 + lo.size + 2 + hi.size + 1 ≤ 9223372036854775807 := by omega
  have k0 : Blk (w.alloc (.cells #[.int .i64 6, .int .i64 lk, .int .i64 ln, .int .i64 ls, .string lq, .int .i64 lm, .int .i64 xk, .int .i64 xn, .int .i64 xs, .string xq, .int .i64 xm, .bool false, .bool true] 82)) w.heap.size 82 #[.int .i64 6, .int .i64 lk, .int .i64 ln, .int .i64 ls, .string lq, .int .i64 lm, .int .i64 xk, .int .i64 xn, .int .i64 xs, .string xq, .int .i64 xm, .bool false, .bool true] := Blk.new _ _ _
  go_enter Tryz.func56, Tryz.ntmps56
  go_wp2_with fail
  refine (KT.out _ (by (repeat' (first | (with_reducible exact Below.refl _ _) | (with_reducible assumption) | (with_reducible refine balloc ?_ _) | (with_reducible refine Below.drew ?_) | (with_reducible refine bset ?_ ?_ _) | (with_reducible refine bstep ?_ (by with_reducible assumption)) | (with_reducible refine bturn ?_ (by with_reducible assumption) ?_) | go_size)))).mono ?_
  rintro e w1 ⟨rfl, hb1⟩
  have k1 := k0.step hb1
  have hb : Below w.heap.size w w1 := by (repeat' (first | (with_reducible exact Below.refl _ _) | (with_reducible assumption) | (with_reducible refine balloc ?_ _) | (with_reducible refine Below.drew ?_) | (with_reducible refine bset ?_ ?_ _) | (with_reducible refine bstep ?_ (by with_reducible assumption)) | (with_reducible refine bturn ?_ (by with_reducible assumption) ?_) | go_size))
  clear k0 hb1
  have K1 := Lib.hid k1
  have hlu := k1.lt; have hllu := lts hlu; have qu0 := k1.cell 0; have qu1 := k1.cell 1; have qu2 := k1.cell 2; have qu3 := k1.cell 3; have qu4 := k1.cell 4; have qu5 := k1.cell 5; have qu6 := k1.cell 6; have qu7 := k1.cell 7; have qu8 := k1.cell 8; have qu9 := k1.cell 9; have qu10 := k1.cell 10; have qu11 := k1.cell 11; have qu12 := k1.cell 12; simp at qu0 qu1 qu2 qu3 qu4 qu5 qu6 qu7 qu8 qu9 qu10 qu11 qu12; have zu0 := k1.frozen 0; have zu1 := k1.frozen 1; have zu2 := k1.frozen 2; have zu3 := k1.frozen 3; have zu4 := k1.frozen 4; have zu5 := k1.frozen 5; have zu6 := k1.frozen 6; have zu7 := k1.frozen 7; have zu8 := k1.frozen 8; have zu9 := k1.frozen 9; have zu10 := k1.frozen 10; have zu11 := k1.frozen 11; have zu12 := k1.frozen 12; have Hk1 := Lib.hid k1; clear k1
  go_wp2_with fail
  refine (KH.out _ (by (repeat' (first | (with_reducible exact Below.refl _ _) | (with_reducible assumption) | (with_reducible refine balloc ?_ _) | (with_reducible refine Below.drew ?_) | (with_reducible refine bset ?_ ?_ _) | (with_reducible refine bstep ?_ (by with_reducible assumption)) | (with_reducible refine bturn ?_ (by with_reducible assumption) ?_) | go_size)))).mono ?_
  rintro e w2 ⟨rfl, hb2⟩
  have k2 := K1.out.step hb2
  have hb02 : Below w.heap.size w w2 := by (repeat' (first | (with_reducible exact Below.refl _ _) | (with_reducible assumption) | (with_reducible refine balloc ?_ _) | (with_reducible refine Below.drew ?_) | (with_reducible refine bset ?_ ?_ _) | (with_reducible refine bstep ?_ (by with_reducible assumption)) | (with_reducible refine bturn ?_ (by with_reducible assumption) ?_) | go_size))
  clear qu0 qu1 qu2 qu3 qu4 qu5 qu6 qu7 qu8 qu9 qu10 qu11 qu12 zu0 zu1 zu2 zu3 zu4 zu5 zu6 zu7 zu8 zu9 zu10 zu11 zu12 hlu hllu hb2
  have hlu := k2.lt; have hllu := lts hlu; have qu0 := k2.cell 0; have qu1 := k2.cell 1; have qu2 := k2.cell 2; have qu3 := k2.cell 3; have qu4 := k2.cell 4; have qu5 := k2.cell 5; have qu6 := k2.cell 6; have qu7 := k2.cell 7; have qu8 := k2.cell 8; have qu9 := k2.cell 9; have qu10 := k2.cell 10; have qu11 := k2.cell 11; have qu12 := k2.cell 12; simp at qu0 qu1 qu2 qu3 qu4 qu5 qu6 qu7 qu8 qu9 qu10 qu11 qu12; have zu0 := k2.frozen 0; have zu1 := k2.frozen 1; have zu2 := k2.frozen 2; have zu3 := k2.frozen 3; have zu4 := k2.frozen 4; have zu5 := k2.frozen 5; have zu6 := k2.frozen 6; have zu7 := k2.frozen 7; have zu8 := k2.frozen 8; have zu9 := k2.frozen 9; have zu10 := k2.frozen 10; have zu11 := k2.frozen 11; have zu12 := k2.frozen 12; have Hk2 := Lib.hid k2; clear k2
  go_wp2_with fail
  go_returns
  exact ⟨rfl, by (repeat' (first | (with_reducible exact Below.refl _ _) | (with_reducible assumption) | (with_reducible refine balloc ?_ _) | (with_reducible refine Below.drew ?_) | (with_reducible refine bset ?_ ?_ _) | (with_reducible refine bstep ?_ (by with_reducible assumption)) | (with_reducible refine bturn ?_ (by with_reducible assumption) ?_) | go_size))⟩
set_option maxHeartbeats 8000000 in
set_option maxRecDepth 100000 in
theorem wr_6tf (hl : lo.size ≤ 1000) (hh : hi.size ≤ 1000) (KT : Hid (∀ W, Below w.heap.size w W → Calls Tryz.prog 92 #[.agg #[.int .i64 lk, .int .i64 ln, .int .i64 ls, .string lq, .int .i64 lm]] W fun e w' => e = .returned (.tuple #[.string lo, .int .i64 0]) ∧ Below W.heap.size W w')) (KH : Hid (∀ W, Below w.heap.size w W → Calls Tryz.prog 92 #[.agg #[.int .i64 xk, .int .i64 xn, .int .i64 xs, .string xq, .int .i64 xm]] W fun e w' => e = .returned (.tuple #[.string hi, .int .i64 0]) ∧ Below W.heap.size W w')) :
    Calls Tryz.prog 56 #[.agg #[.int .i64 6, .int .i64 lk, .int .i64 ln, .int .i64 ls, .string lq, .int .i64 lm, .int .i64 xk, .int .i64 xn, .int .i64 xs, .string xq, .int .i64 xm, .bool true, .bool false]] w fun e w' => e = .returned (.string (((((⟨#[40]⟩ ++ lo) ++ ⟨#[46, 46]⟩) ++ hi) ++ ⟨#[93]⟩))) ∧ Below w.heap.size w w' := by
  have e1 : 1 + lo.size ≤ 9223372036854775807 := by omega
  have e2 : ((⟨#[40]⟩ : ByteArray) ++ lo).size + 2 ≤ 9223372036854775807 := by rw [ByteArray.size_append]; show 1 + lo.size + 2 ≤ _; omega
  have e3 : (((⟨#[40]⟩ : ByteArray) ++ lo) ++ ⟨#[46, 46]⟩).size + hi.size ≤ 9223372036854775807 := by rw [ByteArray.size_append, ByteArray.size_append]; show 1 + lo.size + 2 + hi.size ≤ _; omega
  have e4 : ((((⟨#[40]⟩ : ByteArray) ++ lo) ++ ⟨#[46, 46]⟩) ++ hi).size + 1 ≤ 9223372036854775807 := by rw [ByteArray.size_append, ByteArray.size_append, ByteArray.size_append]; show 1 + lo.size + 2 + hi.size + 1 ≤ _; omega
  have f2 : 1 + lo.size + 2 ≤ 9223372036854775807 := by omega
  have f3 : 1 + lo.size + 2 + hi.size ≤ 9223372036854775807 := by omega
  have f4 : 1 + lo.size + 2 + hi.size + 1 ≤ 9223372036854775807 := by omega
  have k0 : Blk (w.alloc (.cells #[.int .i64 6, .int .i64 lk, .int .i64 ln, .int .i64 ls, .string lq, .int .i64 lm, .int .i64 xk, .int .i64 xn, .int .i64 xs, .string xq, .int .i64 xm, .bool true, .bool false] 82)) w.heap.size 82 #[.int .i64 6, .int .i64 lk, .int .i64 ln, .int .i64 ls, .string lq, .int .i64 lm, .int .i64 xk, .int .i64 xn, .int .i64 xs, .string xq, .int .i64 xm, .bool true, .bool false] := Blk.new _ _ _
  go_enter Tryz.func56, Tryz.ntmps56
  go_wp2_with fail
  refine (KT.out _ (by (repeat' (first | (with_reducible exact Below.refl _ _) | (with_reducible assumption) | (with_reducible refine balloc ?_ _) | (with_reducible refine Below.drew ?_) | (with_reducible refine bset ?_ ?_ _) | (with_reducible refine bstep ?_ (by with_reducible assumption)) | (with_reducible refine bturn ?_ (by with_reducible assumption) ?_) | go_size)))).mono ?_
  rintro e w1 ⟨rfl, hb1⟩
  have k1 := k0.step hb1
  have hb : Below w.heap.size w w1 := by (repeat' (first | (with_reducible exact Below.refl _ _) | (with_reducible assumption) | (with_reducible refine balloc ?_ _) | (with_reducible refine Below.drew ?_) | (with_reducible refine bset ?_ ?_ _) | (with_reducible refine bstep ?_ (by with_reducible assumption)) | (with_reducible refine bturn ?_ (by with_reducible assumption) ?_) | go_size))
  clear k0 hb1
  have K1 := Lib.hid k1
  have hlu := k1.lt; have hllu := lts hlu; have qu0 := k1.cell 0; have qu1 := k1.cell 1; have qu2 := k1.cell 2; have qu3 := k1.cell 3; have qu4 := k1.cell 4; have qu5 := k1.cell 5; have qu6 := k1.cell 6; have qu7 := k1.cell 7; have qu8 := k1.cell 8; have qu9 := k1.cell 9; have qu10 := k1.cell 10; have qu11 := k1.cell 11; have qu12 := k1.cell 12; simp at qu0 qu1 qu2 qu3 qu4 qu5 qu6 qu7 qu8 qu9 qu10 qu11 qu12; have zu0 := k1.frozen 0; have zu1 := k1.frozen 1; have zu2 := k1.frozen 2; have zu3 := k1.frozen 3; have zu4 := k1.frozen 4; have zu5 := k1.frozen 5; have zu6 := k1.frozen 6; have zu7 := k1.frozen 7; have zu8 := k1.frozen 8; have zu9 := k1.frozen 9; have zu10 := k1.frozen 10; have zu11 := k1.frozen 11; have zu12 := k1.frozen 12; have Hk1 := Lib.hid k1; clear k1
  go_wp2_with fail
  refine (KH.out _ (by (repeat' (first | (with_reducible exact Below.refl _ _) | (with_reducible assumption) | (with_reducible refine balloc ?_ _) | (with_reducible refine Below.drew ?_) | (with_reducible refine bset ?_ ?_ _) | (with_reducible refine bstep ?_ (by with_reducible assumption)) | (with_reducible refine bturn ?_ (by with_reducible assumption) ?_) | go_size)))).mono ?_
  rintro e w2 ⟨rfl, hb2⟩
  have k2 := K1.out.step hb2
  have hb02 : Below w.heap.size w w2 := by (repeat' (first | (with_reducible exact Below.refl _ _) | (with_reducible assumption) | (with_reducible refine balloc ?_ _) | (with_reducible refine Below.drew ?_) | (with_reducible refine bset ?_ ?_ _) | (with_reducible refine bstep ?_ (by with_reducible assumption)) | (with_reducible refine bturn ?_ (by with_reducible assumption) ?_) | go_size))
  clear qu0 qu1 qu2 qu3 qu4 qu5 qu6 qu7 qu8 qu9 qu10 qu11 qu12 zu0 zu1 zu2 zu3 zu4 zu5 zu6 zu7 zu8 zu9 zu10 zu11 zu12 hlu hllu hb2
  have hlu := k2.lt; have hllu := lts hlu; have qu0 := k2.cell 0; have qu1 := k2.cell 1; have qu2 := k2.cell 2; have qu3 := k2.cell 3; have qu4 := k2.cell 4; have qu5 := k2.cell 5; have qu6 := k2.cell 6; have qu7 := k2.cell 7; have qu8 := k2.cell 8; have qu9 := k2.cell 9; have qu10 := k2.cell 10; have qu11 := k2.cell 11; have qu12 := k2.cell 12; simp at qu0 qu1 qu2 qu3 qu4 qu5 qu6 qu7 qu8 qu9 qu10 qu11 qu12; have zu0 := k2.frozen 0; have zu1 := k2.frozen 1; have zu2 := k2.frozen 2; have zu3 := k2.frozen 3; have zu4 := k2.frozen 4; have zu5 := k2.frozen 5; have zu6 := k2.frozen 6; have zu7 := k2.frozen 7; have zu8 := k2.frozen 8; have zu9 := k2.frozen 9; have zu10 := k2.frozen 10; have zu11 := k2.frozen 11; have zu12 := k2.frozen 12; have Hk2 := Lib.hid k2; clear k2
  go_wp2_with fail
  go_returns
  exact ⟨rfl, by (repeat' (first | (with_reducible exact Below.refl _ _) | (with_reducible assumption) | (with_reducible refine balloc ?_ _) | (with_reducible refine Below.drew ?_) | (with_reducible refine bset ?_ ?_ _) | (with_reducible refine bstep ?_ (by with_reducible assumption)) | (with_reducible refine bturn ?_ (by with_reducible assumption) ?_) | go_size))⟩
set_option maxHeartbeats 8000000 in
set_option maxRecDepth 100000 in
theorem wr_6tt (hl : lo.size ≤ 1000) (hh : hi.size ≤ 1000) (KT : Hid (∀ W, Below w.heap.size w W → Calls Tryz.prog 92 #[.agg #[.int .i64 lk, .int .i64 ln, .int .i64 ls, .string lq, .int .i64 lm]] W fun e w' => e = .returned (.tuple #[.string lo, .int .i64 0]) ∧ Below W.heap.size W w')) (KH : Hid (∀ W, Below w.heap.size w W → Calls Tryz.prog 92 #[.agg #[.int .i64 xk, .int .i64 xn, .int .i64 xs, .string xq, .int .i64 xm]] W fun e w' => e = .returned (.tuple #[.string hi, .int .i64 0]) ∧ Below W.heap.size W w')) :
    Calls Tryz.prog 56 #[.agg #[.int .i64 6, .int .i64 lk, .int .i64 ln, .int .i64 ls, .string lq, .int .i64 lm, .int .i64 xk, .int .i64 xn, .int .i64 xs, .string xq, .int .i64 xm, .bool true, .bool true]] w fun e w' => e = .returned (.string (((((⟨#[40]⟩ ++ lo) ++ ⟨#[46, 46]⟩) ++ hi) ++ ⟨#[41]⟩))) ∧ Below w.heap.size w w' := by
  have e1 : 1 + lo.size ≤ 9223372036854775807 := by omega
  have e2 : ((⟨#[40]⟩ : ByteArray) ++ lo).size + 2 ≤ 9223372036854775807 := by rw [ByteArray.size_append]; show 1 + lo.size + 2 ≤ _; omega
  have e3 : (((⟨#[40]⟩ : ByteArray) ++ lo) ++ ⟨#[46, 46]⟩).size + hi.size ≤ 9223372036854775807 := by rw [ByteArray.size_append, ByteArray.size_append]; show 1 + lo.size + 2 + hi.size ≤ _; omega
  have e4 : ((((⟨#[40]⟩ : ByteArray) ++ lo) ++ ⟨#[46, 46]⟩) ++ hi).size + 1 ≤ 9223372036854775807 := by rw [ByteArray.size_append, ByteArray.size_append, ByteArray.size_append]; show 1 + lo.size + 2 + hi.size + 1 ≤ _; omega
  have f2 : 1 + lo.size + 2 ≤ 9223372036854775807 := by omega
  have f3 : 1 + lo.size + 2 + hi.size ≤ 9223372036854775807 := by omega
  have f4 : 1 + lo.size + 2 + hi.size + 1 ≤ 9223372036854775807 := by omega
  have k0 : Blk (w.alloc (.cells #[.int .i64 6, .int .i64 lk, .int .i64 ln, .int .i64 ls, .string lq, .int .i64 lm, .int .i64 xk, .int .i64 xn, .int .i64 xs, .string xq, .int .i64 xm, .bool true, .bool true] 82)) w.heap.size 82 #[.int .i64 6, .int .i64 lk, .int .i64 ln, .int .i64 ls, .string lq, .int .i64 lm, .int .i64 xk, .int .i64 xn, .int .i64 xs, .string xq, .int .i64 xm, .bool true, .bool true] := Blk.new _ _ _
  go_enter Tryz.func56, Tryz.ntmps56
  go_wp2_with fail
  refine (KT.out _ (by (repeat' (first | (with_reducible exact Below.refl _ _) | (with_reducible assumption) | (with_reducible refine balloc ?_ _) | (with_reducible refine Below.drew ?_) | (with_reducible refine bset ?_ ?_ _) | (with_reducible refine bstep ?_ (by with_reducible assumption)) | (with_reducible refine bturn ?_ (by with_reducible assumption) ?_) | go_size)))).mono ?_
  rintro e w1 ⟨rfl, hb1⟩
  have k1 := k0.step hb1
  have hb : Below w.heap.size w w1 := by (repeat' (first | (with_reducible exact Below.refl _ _) | (with_reducible assumption) | (with_reducible refine balloc ?_ _) | (with_reducible refine Below.drew ?_) | (with_reducible refine bset ?_ ?_ _) | (with_reducible refine bstep ?_ (by with_reducible assumption)) | (with_reducible refine bturn ?_ (by with_reducible assumption) ?_) | go_size))
  clear k0 hb1
  have K1 := Lib.hid k1
  have hlu := k1.lt; have hllu := lts hlu; have qu0 := k1.cell 0; have qu1 := k1.cell 1; have qu2 := k1.cell 2; have qu3 := k1.cell 3; have qu4 := k1.cell 4; have qu5 := k1.cell 5; have qu6 := k1.cell 6; have qu7 := k1.cell 7; have qu8 := k1.cell 8; have qu9 := k1.cell 9; have qu10 := k1.cell 10; have qu11 := k1.cell 11; have qu12 := k1.cell 12; simp at qu0 qu1 qu2 qu3 qu4 qu5 qu6 qu7 qu8 qu9 qu10 qu11 qu12; have zu0 := k1.frozen 0; have zu1 := k1.frozen 1; have zu2 := k1.frozen 2; have zu3 := k1.frozen 3; have zu4 := k1.frozen 4; have zu5 := k1.frozen 5; have zu6 := k1.frozen 6; have zu7 := k1.frozen 7; have zu8 := k1.frozen 8; have zu9 := k1.frozen 9; have zu10 := k1.frozen 10; have zu11 := k1.frozen 11; have zu12 := k1.frozen 12; have Hk1 := Lib.hid k1; clear k1
  go_wp2_with fail
  refine (KH.out _ (by (repeat' (first | (with_reducible exact Below.refl _ _) | (with_reducible assumption) | (with_reducible refine balloc ?_ _) | (with_reducible refine Below.drew ?_) | (with_reducible refine bset ?_ ?_ _) | (with_reducible refine bstep ?_ (by with_reducible assumption)) | (with_reducible refine bturn ?_ (by with_reducible assumption) ?_) | go_size)))).mono ?_
  rintro e w2 ⟨rfl, hb2⟩
  have k2 := K1.out.step hb2
  have hb02 : Below w.heap.size w w2 := by (repeat' (first | (with_reducible exact Below.refl _ _) | (with_reducible assumption) | (with_reducible refine balloc ?_ _) | (with_reducible refine Below.drew ?_) | (with_reducible refine bset ?_ ?_ _) | (with_reducible refine bstep ?_ (by with_reducible assumption)) | (with_reducible refine bturn ?_ (by with_reducible assumption) ?_) | go_size))
  clear qu0 qu1 qu2 qu3 qu4 qu5 qu6 qu7 qu8 qu9 qu10 qu11 qu12 zu0 zu1 zu2 zu3 zu4 zu5 zu6 zu7 zu8 zu9 zu10 zu11 zu12 hlu hllu hb2
  have hlu := k2.lt; have hllu := lts hlu; have qu0 := k2.cell 0; have qu1 := k2.cell 1; have qu2 := k2.cell 2; have qu3 := k2.cell 3; have qu4 := k2.cell 4; have qu5 := k2.cell 5; have qu6 := k2.cell 6; have qu7 := k2.cell 7; have qu8 := k2.cell 8; have qu9 := k2.cell 9; have qu10 := k2.cell 10; have qu11 := k2.cell 11; have qu12 := k2.cell 12; simp at qu0 qu1 qu2 qu3 qu4 qu5 qu6 qu7 qu8 qu9 qu10 qu11 qu12; have zu0 := k2.frozen 0; have zu1 := k2.frozen 1; have zu2 := k2.frozen 2; have zu3 := k2.frozen 3; have zu4 := k2.frozen 4; have zu5 := k2.frozen 5; have zu6 := k2.frozen 6; have zu7 := k2.frozen 7; have zu8 := k2.frozen 8; have zu9 := k2.frozen 9; have zu10 := k2.frozen 10; have zu11 := k2.frozen 11; have zu12 := k2.frozen 12; have Hk2 := Lib.hid k2; clear k2
  go_wp2_with fail
  go_returns
  exact ⟨rfl, by (repeat' (first | (with_reducible exact Below.refl _ _) | (with_reducible assumption) | (with_reducible refine balloc ?_ _) | (with_reducible refine Below.drew ?_) | (with_reducible refine bset ?_ ?_ _) | (with_reducible refine bstep ?_ (by with_reducible assumption)) | (with_reducible refine bturn ?_ (by with_reducible assumption) ?_) | go_size))⟩
end
end Go.Proofs.YtkkeplmaphcblaaGreatDoor

namespace Go.Proofs.YtkkeplmaphcblaaGreatDoor
open Go.RowKit

theorem dw_app {p : UInt8 → Bool} {c : UInt8} {r : Bs} (hc : p c = false) : ∀ {u : Bs}, (∀ x ∈ u, p x = true) → (u ++ c :: r).dropWhile p = c :: r
  | [], _ => by simp [hc]
  | x :: u, h => by
    rw [List.cons_append, List.dropWhile_cons_of_pos (h x (List.mem_cons_self ..))]
    exact dw_app hc fun y hy => h y (List.mem_cons_of_mem _ hy)
theorem dw_ex {p : UInt8 → Bool} {c : UInt8} {r : Bs} : ∀ {l : Bs}, l.dropWhile p = c :: r → ∃ u, (∀ x ∈ u, p x = true) ∧ l = u ++ c :: r
  | [], h => by simp at h
  | x :: l, h => by
    by_cases hx : p x = true
    · rw [List.dropWhile_cons_of_pos hx] at h
      obtain ⟨u, h1, h2⟩ := dw_ex h
      refine ⟨x :: u, fun y hy => ?_, by rw [h2]; rfl⟩
      rcases List.mem_cons.1 hy with rfl | hy
      · exact hx
      · exact h1 y hy
    · rw [List.dropWhile_cons_of_neg hx] at h
      exact ⟨[], by simp, by simpa using h⟩
theorem trim_l {p : UInt8 → Bool} {c : UInt8} (hc : p c = false) (l : Bs) : (l.reverse.dropWhile p).reverse.dropWhile p = [c] ↔ ∃ u v, (∀ x ∈ u, p x = true) ∧ (∀ x ∈ v, p x = true) ∧ l = u ++ c :: v := by
  constructor
  · intro h
    obtain ⟨u, h1, h2⟩ := dw_ex h
    have h3 : l.reverse.dropWhile p = c :: u.reverse := by
      have := congrArg List.reverse h2
      simpa using this
    obtain ⟨v, h4, h5⟩ := dw_ex h3
    refine ⟨u, v.reverse, h1, fun x hx => h4 x (by simpa using hx), ?_⟩
    have := congrArg List.reverse h5
    simpa using this
  · rintro ⟨u, v, h1, h2, rfl⟩
    have e : (u ++ c :: v).reverse = v.reverse ++ c :: u.reverse := by simp
    rw [e, dw_app hc (fun x hx => h2 x (by simpa using hx))]
    have e2 : (c :: u.reverse).reverse = u ++ [c] := by simp
    rw [e2]
    exact dw_app hc h1
theorem trim_r {p : UInt8 → Bool} {c : UInt8} (hc : p c = false) (l : Bs) : ((l.dropWhile p).reverse.dropWhile p).reverse = [c] ↔ ∃ u v, (∀ x ∈ u, p x = true) ∧ (∀ x ∈ v, p x = true) ∧ l = u ++ c :: v := by
  constructor
  · intro h
    have h0 : (l.dropWhile p).reverse.dropWhile p = [c] := by
      have := congrArg List.reverse h
      simpa using this
    obtain ⟨v, h1, h2⟩ := dw_ex h0
    have h3 : l.dropWhile p = c :: v.reverse := by
      have := congrArg List.reverse h2
      simpa using this
    obtain ⟨u, h4, h5⟩ := dw_ex h3
    exact ⟨u, v.reverse, h4, fun x hx => h1 x (by simpa using hx), h5⟩
  · rintro ⟨u, v, h1, h2, rfl⟩
    rw [dw_app hc h1]
    have e : (c :: v).reverse = v.reverse ++ c :: [] := by simp
    rw [e, dw_app hc (fun x hx => h2 x (by simpa using hx))]
    rfl
theorem any_trim (l : Bs) : (Lib.trimS l [32, 9, 13, 10] == [45]) = isAny l := by
  have h1 := trim_l (p := (whites.contains ·)) (c := 45) (by decide) l
  have h2 := trim_r (p := (whites.contains ·)) (c := 45) (by decide) l
  have h3 : Lib.trimS l [32, 9, 13, 10] = (l.reverse.dropWhile (whites.contains ·)).reverse.dropWhile (whites.contains ·) := rfl
  unfold isAny
  rw [h3]
  rw [← h2] at h1
  by_cases h : ((l.dropWhile (whites.contains ·)).reverse.dropWhile (whites.contains ·)).reverse = [45]
  · rw [h, h1.2 h]
  · have h4 : ¬ (l.reverse.dropWhile (whites.contains ·)).reverse.dropWhile (whites.contains ·) = [45] := fun hn => h (h1.1 hn)
    rw [beq_eq_false_iff_ne.2 h, beq_eq_false_iff_ne.2 h4]
end Go.Proofs.YtkkeplmaphcblaaGreatDoor

namespace Go.Proofs.YtkkeplmaphcblaaGreatDoor
open Go.RowKit Go.Shelf

theorem run_tst_neq (w : World) (k lk ln ls lm xk xn xs xm : Int) (lq xq : ByteArray) (ol oh : Bool) :
    (binOp .neq 82 (.agg #[.int .i64 k, .int .i64 lk, .int .i64 ln, .int .i64 ls, .string lq, .int .i64 lm, .int .i64 xk, .int .i64 xn, .int .i64 xs, .string xq, .int .i64 xm, .bool ol, .bool oh]) (.agg #[.int .i64 k, .int .i64 lk, .int .i64 ln, .int .i64 ls, .string lq, .int .i64 lm, .int .i64 xk, .int .i64 xn, .int .i64 xs, .string xq, .int .i64 xm, .bool ol, .bool oh])).run Tryz.prog w
      = .ok (.bool false) w := by
  go_simp
attribute [local go_sem high] run_tst_neq

set_option maxHeartbeats 16000000 in
set_option maxRecDepth 100000 in
theorem same9_any (any no : Bool) (A B : Option Addr) (L : List Tst) (c d : Nat) (hl : L.length ≤ 1000) (w : World) (hA : RM clT 13 w A L) (hB : RM clT 13 w B L) :
    Calls Tryz.prog 28 #[.agg #[.bool any, .bool no, .slice A L.length c], .agg #[.bool any, .bool no, .slice B L.length d]] w fun e w' => e = .returned (.bool true) ∧ Below w.heap.size w w' := by
  have HA := Lib.hid hA
  have HB := Lib.hid hB
  have k0 : Blk ((w.alloc (.cells #[.bool any, .bool no, .slice A L.length c] 47)).alloc (.cells #[.bool any, .bool no, .slice B L.length d] 47)) w.heap.size 47 #[.bool any, .bool no, .slice A L.length c] := (Blk.new _ _ _).alloc _
  have k1 : Blk ((w.alloc (.cells #[.bool any, .bool no, .slice A L.length c] 47)).alloc (.cells #[.bool any, .bool no, .slice B L.length d] 47)) (w.heap.size + 1) 47 #[.bool any, .bool no, .slice B L.length d] := Blk.new' _ _ _ (by simp)
  have hna : (any != any) = false := by cases any <;> rfl
  have hnn : (no != no) = false := by cases no <;> rfl
  clear hA hB
  go_enter Tryz.func28, Tryz.ntmps28
  go_wp2_with fail
  go_loopw [5] (fun i wr => ∃ k : Nat, k ≤ L.length ∧ i = .int .i64 (k : Int) ∧ Below w.heap.size w wr ∧ Blk wr w.heap.size 47 #[.bool any, .bool no, .slice A L.length c] ∧ Blk wr (w.heap.size + 1) 47 #[.bool any, .bool no, .slice B L.length d]) (fun i _ => L.length - (intOf i).toNat)
  case atStart => exact ⟨0, by omega, rfl, by (repeat' (first | (with_reducible exact Below.refl _ _) | (with_reducible assumption) | (with_reducible refine balloc ?_ _) | (with_reducible refine Below.drew ?_) | (with_reducible refine bset ?_ ?_ _) | (with_reducible refine bstep ?_ (by with_reducible assumption)) | (with_reducible refine bturn ?_ (by with_reducible assumption) ?_) | go_size)), k0, k1⟩
  case round =>
    obtain ⟨k, hk, rfl, hbr, ka, kb⟩ := hrel
    have KA := Lib.hid ka
    have KB := Lib.hid kb
    by_cases hlt : k < L.length
    · obtain ⟨t, ht⟩ : ∃ t, L[k]? = some t := ⟨L[k], List.getElem?_eq_getElem hlt⟩
      have hki : (k : Int) < (L.length : Int) := by omega
      obtain ⟨g, o, rfl, HC⟩ := rmt_get HA.out ht
      obtain ⟨g2, o2, rfl, HD⟩ := rmt_get HB.out ht
      obtain ⟨tk, ⟨lk, ln, ls, lt, lm⟩, ⟨xk, xn, xs, xt, xm⟩, ol, oh⟩ := t
      simp only at HC HD
      obtain ⟨lq, hlq⟩ : ∃ q, bs lt = q := ⟨_, rfl⟩
      obtain ⟨xq, hhq⟩ : ∃ q, bs xt = q := ⟨_, rfl⟩
      rw [hlq, hhq] at HC HD
      obtain ⟨c0, c1, c2, c3, c4, c5, c6, c7, c8, c9, c10, c11, c12⟩ := HC
      obtain ⟨d0, d1, d2, d3, d4, d5, d6, d7, d8, d9, d10, d11, d12⟩ := HD
      replace c0 := keep1 hbr c0
      replace c1 := keep1 hbr c1
      replace c2 := keep1 hbr c2
      replace c3 := keep1 hbr c3
      replace c4 := keep1 hbr c4
      replace c5 := keep1 hbr c5
      replace c6 := keep1 hbr c6
      replace c7 := keep1 hbr c7
      replace c8 := keep1 hbr c8
      replace c9 := keep1 hbr c9
      replace c10 := keep1 hbr c10
      replace c11 := keep1 hbr c11
      replace c12 := keep1 hbr c12
      replace d0 := keep1 hbr d0
      replace d1 := keep1 hbr d1
      replace d2 := keep1 hbr d2
      replace d3 := keep1 hbr d3
      replace d4 := keep1 hbr d4
      replace d5 := keep1 hbr d5
      replace d6 := keep1 hbr d6
      replace d7 := keep1 hbr d7
      replace d8 := keep1 hbr d8
      replace d9 := keep1 hbr d9
      replace d10 := keep1 hbr d10
      replace d11 := keep1 hbr d11
      replace d12 := keep1 hbr d12
      clear ht hlt hlq hhq
      have hlu := ka.lt; have hllu := lts hlu; have qu0 := ka.cell 0; have qu1 := ka.cell 1; have qu2 := ka.cell 2; simp at qu0 qu1 qu2; have zu0 := ka.frozen 0; have zu1 := ka.frozen 1; have zu2 := ka.frozen 2; have Hka := Lib.hid ka; clear ka
      have hlv := kb.lt; have hllv := lts hlv; have qv0 := kb.cell 0; have qv1 := kb.cell 1; have qv2 := kb.cell 2; simp at qv0 qv1 qv2; have zv0 := kb.frozen 0; have zv1 := kb.frozen 1; have zv2 := kb.frozen 2; have Hkb := Lib.hid kb; clear kb
      go_wp2_with fail
      go_region
      all_goals
        have KA2 := KA.out.drew
        have KB2 := KB.out.drew
        go_wp2_with fail
        go_roundw
        case rel => exact ⟨k + 1, by omega, by go_num, by (repeat' (first | (with_reducible exact Below.refl _ _) | (with_reducible assumption) | (with_reducible refine balloc ?_ _) | (with_reducible refine Below.drew ?_) | (with_reducible refine bset ?_ ?_ _) | (with_reducible refine bstep ?_ (by with_reducible assumption)) | (with_reducible refine bturn ?_ (by with_reducible assumption) ?_) | go_size)), KA2, KB2⟩
        case measure => simp [intOf]; omega
    · obtain rfl : k = L.length := by omega
      clear hlt
      have hlu := ka.lt; have hllu := lts hlu; have qu0 := ka.cell 0; have qu1 := ka.cell 1; have qu2 := ka.cell 2; simp at qu0 qu1 qu2; have zu0 := ka.frozen 0; have zu1 := ka.frozen 1; have zu2 := ka.frozen 2; have Hka := Lib.hid ka; clear ka
      have hlv := kb.lt; have hllv := lts hlv; have qv0 := kb.cell 0; have qv1 := kb.cell 1; have qv2 := kb.cell 2; simp at qv0 qv1 qv2; have zv0 := kb.frozen 0; have zv1 := kb.frozen 1; have zv2 := kb.frozen 2; have Hkb := Lib.hid kb; clear kb
      go_wp2_with fail
      go_returns
      exact ⟨rfl, by (repeat' (first | (with_reducible exact Below.refl _ _) | (with_reducible assumption) | (with_reducible refine balloc ?_ _) | (with_reducible refine Below.drew ?_) | (with_reducible refine bset ?_ ?_ _) | (with_reducible refine bstep ?_ (by with_reducible assumption)) | (with_reducible refine bturn ?_ (by with_reducible assumption) ?_) | go_size))⟩
end Go.Proofs.YtkkeplmaphcblaaGreatDoor
