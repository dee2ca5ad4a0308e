/- The walk of unary.Parse. Printed by gunp.py. What is read as tests is sound, and where it is wrong lies in the text: plainly. Values and rows of structs that came in as an argument: how they read. Tests that came in as an argument: how they read. -/
import Derived.Test.YtkkeplmaphcblaaGreatDoorJ23
import Derived.Test.YtkkeplmaphcblaaGreatDoorJ3
import Derived.Test.YtkkeplmaphcblaaGreatDoorJ22
import Derived.Test.YtkkeplmaphcblaaGreatDoorJ6
import Derived.Test.YtkkeplmaphcblaaGreatDoorJ21
namespace Go.Proofs.YtkkeplmaphcblaaGreatDoor
open Go.RowKit Go.Shelf

theorem utrim (s : ByteArray) (hs : s.size ≤ 9223372036854775807) (w : World) :
    Calls Tryz.prog 58 #[.string s, .string ⟨#[32, 9, 13, 10]⟩] w fun e w' => e = .returned (.string ⟨(Lib.trimS s.data.toList (⟨#[32, 9, 13, 10]⟩ : ByteArray).data.toList).toArray⟩) ∧ Below w.heap.size w w' :=
  Any.strings_Trim_laid Tryz.lays160 (by kernel_rfl) s ⟨#[32, 9, 13, 10]⟩ w hs (by decide) (ascii_of_all (by decide))
/-- What is wanted of cell.test. -/
def TestAny : Prop := ∀ (b : Nat) (A : Option Addr) (c : Nat) (p : PS) (w : World), PB w b A c p → (∀ t ∈ p.L, tkOK t) →
    Calls Tryz.prog 103 #[.agg #[.pointer (some ⟨b, 0, none⟩)]] w fun e w' => e = .returned (.agg (cellsTs p.test.1)) ∧ PB w' b A c p.test.2 ∧ Gr b w w'
/-- What unary.Parse comes to. -/
def UPOut (w w' : World) (r : Tsts × Int × Int) (e : Ending) : Prop := ∃ A c, e = .returned (.tuple #[.agg #[.bool r.1.any, .bool r.1.no, .slice A r.1.l.length c], .int .i64 r.2.1, .int .i64 r.2.2]) ∧ RM clT 13 w' A r.1.l ∧ ∀ g o, A = some ⟨g, o, none⟩ → w.heap.size ≤ g
theorem need_L' (p : PS) (s : Bs) : (p.need s).L = p.L := need_L p s
theorem more_L : ∀ (f : Nat) (l : List Tst) (p : PS), (moreT f l p).2.L = p.L
  | 0, l, p => rfl
  | f + 1, l, p => by
    rw [moreT]
    split
    · split
      · exact fail_L _ _
      · rw [more_L f]
        rw [test_L]
        rfl
    · rfl
theorem out_1 {no : Bool} {L : List Tst} {p : PS} (he : p.e = 0) (hE : p.ended = false) : outT no L p = (zeroTs, (p.fail 5).a, 5) := by
  have h1 : p.fin = p.fail 5 := by unfold PS.fin; rw [if_pos ⟨he, hE⟩]
  have h2 : (p.fail 5).e = 5 := by unfold PS.fail; rw [if_pos he]
  unfold outT
  rw [h1, h2, if_neg (by decide)]
theorem out_2 {no : Bool} {L : List Tst} {p : PS} (he : p.e = 0) (hE : p.ended = true) : outT no L p = (⟨false, no, L⟩, 0, 0) := by
  have h1 : p.fin = p := by unfold PS.fin; rw [if_neg (by rw [hE]; simp)]
  unfold outT
  rw [h1, if_pos he]
theorem out_3 {no : Bool} {L : List Tst} {p : PS} (he : ¬ p.e = 0) : outT no L p = (zeroTs, p.a, p.e) := by
  have h1 : p.fin = p := by unfold PS.fin; rw [if_neg (fun h => he h.1)]
  unfold outT
  rw [h1, if_neg he]
set_option maxHeartbeats 4000000 in
set_option maxRecDepth 100000 in
theorem uparse_any_t (s tr : ByteArray) (htr : (tr.toList == [45]) = true) (w : World)
    (HT : Hid (∀ W, Below w.heap.size w W → Calls Tryz.prog 58 #[.string s, .string ⟨#[32, 9, 13, 10]⟩] W fun e w' => e = .returned (.string tr) ∧ Below W.heap.size W w')) :
    Calls Tryz.prog 27 #[.string s] w fun e w' => UPOut w w' (⟨true, false, []⟩, 0, 0) e ∧ Below w.heap.size w w' := by
  have k1 : Blk (w.alloc (.cells #[.bool false, .bool false, .slice none 0 0] 47)) w.heap.size 47 #[.bool false, .bool false, .slice none 0 0] := Blk.new _ _ _
  go_enter Tryz.func27, Tryz.ntmps27
  go_wp2_with fail
  refine (HT.out _ (by (repeat' (first | (with_reducible exact Below.refl _ _) | (with_reducible assumption) | (with_reducible refine balloc ?_ _) | (with_reducible refine Below.drew ?_) | (with_reducible refine bset ?_ ?_ _) | (with_reducible refine bstep ?_ (by with_reducible assumption)) | (with_reducible refine bturn ?_ (by with_reducible assumption) ?_) | go_size)))).mono ?_
  rintro e w1 ⟨rfl, hb1⟩
  have k2 := k1.step hb1
  clear k1
  go_wp2_with (refine wpList_store_blk k2 rfl _ _ _ (by rfl) _ (by rfl) (by rfl) (by (repeat (first | (with_reducible exact k2) | (with_reducible refine Blk.alloc ?_ _) | (with_reducible refine Blk.drew ?_) | (with_reducible refine Blk.far ?_ (by first | (simp; done) | (simp; omega)) _) | (with_reducible refine Blk.turn ?_ (by with_reducible assumption) (by omega))))) (by rfl) (by kernel_rfl) (by simp [Value.oneCell']) ?_; intro wt k2n ht)
  refine ret_blk3 rfl k2n rfl Tryz.underlying47 rfl (by kernel_rfl) rfl ?_
  exact ⟨⟨none, 0, rfl, RM.nil _ _, fun g o h => by cases h⟩, by (repeat' (first | (with_reducible exact Below.refl _ _) | (with_reducible assumption) | (with_reducible refine balloc ?_ _) | (with_reducible refine Below.drew ?_) | (with_reducible refine bset ?_ ?_ _) | (with_reducible refine bstep ?_ (by with_reducible assumption)) | (with_reducible refine bturn ?_ (by with_reducible assumption) ?_) | go_size))⟩
set_option maxHeartbeats 16000000 in
set_option maxRecDepth 100000 in
theorem uparse_f (hTA : Hid TestAny) (s tr : ByteArray) (htr : (tr.toList == [45]) = false) (p0 : PS) (hok : ∀ t ∈ p0.L, tkOK t) (hN : p0.isS notB = false) (w : World)
    (HT : Hid (∀ W, Below w.heap.size w W → Calls Tryz.prog 58 #[.string s, .string ⟨#[32, 9, 13, 10]⟩] W fun e w' => e = .returned (.string tr) ∧ Below W.heap.size W w'))
    (HP : Hid (∀ W, Below w.heap.size w W → Calls Tryz.prog 41 #[.string s] W fun e w' => ∃ b A c, e = .returned (.pointer (some ⟨b, 0, none⟩)) ∧ W.heap.size ≤ b ∧ PB w' b A c p0 ∧ Below W.heap.size W w')) :
    Calls Tryz.prog 27 #[.string s] w fun e w' => UPOut w w' (readT p0) e ∧ Below w.heap.size w w' := by
  obtain ⟨p1, hp1⟩ : ∃ q, p0 = q := ⟨_, rfl⟩
  have hL1 : p1.L = p0.L := by rw [← hp1]
  have hr : readT p0 = outT false p1.tests.1 p1.tests.2 := by unfold readT; rw [hN, ← hp1]; rfl
  have hL3 : p1.tests.2.L = p0.L := by unfold PS.tests; rw [more_L, test_L, hL1]
  have KT := Lib.hid (fun (b : Nat) (A : Option Addr) (c : Nat) (W : World) (h : PB W b A c p0) => take_any b A c p0 notB W h)
  have KL := Lib.hid (fun (b : Nat) (A : Option Addr) (c : Nat) (W : World) (h : PB W b A c p1) => list_any b A c p1 W h (Lib.hid fun q hq W h => hTA.out b A c q W h (by rw [hq, hL1]; exact hok)))
  have KE := Lib.hid (fun (b : Nat) (A : Option Addr) (c : Nat) (q : PS) (W : World) (h : PB W b A c q) => error_any b A c q W h)
  have KD := Lib.hid (fun (b : Nat) (A : Option Addr) (c : Nat) (q : PS) (W : World) (h : PB W b A c q) => ended_any b A c q W h)
  have KF := Lib.hid (fun (b : Nat) (A : Option Addr) (c : Nat) (q : PS) (W : World) (h : PB W b A c q) => fail_any b A c q 5 W h)
  rw [hN, take_no hN] at KT
  rw [hr]
  obtain ⟨L, hL⟩ : ∃ L, p1.tests.1 = L := ⟨_, rfl⟩
  obtain ⟨p2, hp2⟩ : ∃ q, p1.tests.2 = q := ⟨_, rfl⟩
  rw [hL, hp2] at KL
  rw [hL, hp2]
  rw [hp2] at hL3
  have HL1 := Lib.hid hL1
  have HL2 : Hid (p2.L = p0.L) := Lib.hid (by rw [← hp2]; unfold PS.tests; rw [more_L, test_L, hL1])
  have HL3 := Lib.hid hL3
  have k1 : Blk (w.alloc (.cells #[.bool false, .bool false, .slice none 0 0] 47)) w.heap.size 47 #[.bool false, .bool false, .slice none 0 0] := Blk.new _ _ _
  clear hTA hok hN hr  hL1 hL3 hL hp2
  subst hp1

  go_enter Tryz.func27, Tryz.ntmps27
  go_wp2_with fail
  refine (HT.out _ (by (repeat' (first | (with_reducible exact Below.refl _ _) | (with_reducible assumption) | (with_reducible refine balloc ?_ _) | (with_reducible refine Below.drew ?_) | (with_reducible refine bset ?_ ?_ _) | (with_reducible refine bstep ?_ (by with_reducible assumption)) | (with_reducible refine bturn ?_ (by with_reducible assumption) ?_) | go_size)))).mono ?_
  rintro e w1 ⟨rfl, hb1⟩
  have k2 := k1.step hb1
  have hb01 : Below w.heap.size w w1 := by (repeat' (first | (with_reducible exact Below.refl _ _) | (with_reducible assumption) | (with_reducible refine balloc ?_ _) | (with_reducible refine Below.drew ?_) | (with_reducible refine bset ?_ ?_ _) | (with_reducible refine bstep ?_ (by with_reducible assumption)) | (with_reducible refine bturn ?_ (by with_reducible assumption) ?_) | go_size))
  clear k1 HT
  go_wp2_with fail
  refine (HP.out _ (by (repeat' (first | (with_reducible exact Below.refl _ _) | (with_reducible assumption) | (with_reducible refine balloc ?_ _) | (with_reducible refine Below.drew ?_) | (with_reducible refine bset ?_ ?_ _) | (with_reducible refine bstep ?_ (by with_reducible assumption)) | (with_reducible refine bturn ?_ (by with_reducible assumption) ?_) | go_size)))).mono ?_
  rintro e w2 ⟨b, A, c, rfl, hbb, h2, hb2⟩
  have k3 := k2.step hb2
  have hb02 : Below w.heap.size w w2 := by (repeat' (first | (with_reducible exact Below.refl _ _) | (with_reducible assumption) | (with_reducible refine balloc ?_ _) | (with_reducible refine Below.drew ?_) | (with_reducible refine bset ?_ ?_ _) | (with_reducible refine bstep ?_ (by with_reducible assumption)) | (with_reducible refine bturn ?_ (by with_reducible assumption) ?_) | go_size))
  have hlb := h2.blk.lt
  have hl3 := k3.lt
  have H2 := Lib.hid h2
  have hz1 := hb01.size
  have hz0 := hb1.size
  simp only [World.size_alloc] at hz0
  clear k2 HP h2 hb1 hb2 hb01
  go_wp2_with fail
  have kc : Blk (w2.alloc (.cells #[.pointer (some ⟨b, 0, none⟩)] 87)) w2.heap.size 87 #[.pointer (some ⟨b, 0, none⟩)] := Blk.new _ _ _
  refine (KT.out b A c _ (H2.out.step (by (repeat' (first | (with_reducible exact Below.refl _ _) | (with_reducible assumption) | (with_reducible refine balloc ?_ _) | (with_reducible refine Below.drew ?_) | (with_reducible refine bset ?_ ?_ _) | (with_reducible refine bstep ?_ (by with_reducible assumption)) | (with_reducible refine bturn ?_ (by with_reducible assumption) ?_) | go_size))))).mono ?_
  rintro e w3 ⟨rfl, h3, g3⟩
  have g03 : Gr b w2 w3 := (Gr.of (by (repeat' (first | (with_reducible exact Below.refl _ _) | (with_reducible assumption) | (with_reducible refine balloc ?_ _) | (with_reducible refine Below.drew ?_) | (with_reducible refine bset ?_ ?_ _) | (with_reducible refine bstep ?_ (by with_reducible assumption)) | (with_reducible refine bturn ?_ (by with_reducible assumption) ?_) | go_size)))).trans g3
  have hz3 := g3.size
  simp only [World.size_alloc] at hz3
  have kc3 := kc.gr g3 (by omega)
  have kr3 := k3.gr g03 (by omega)
  have H3 := Lib.hid h3
  clear kc k3 h3 g3
  have KC3 := Lib.hid kc3
  have hlu := kc3.lt; have hllu := lts hlu; have qu0 := kc3.cell 0; simp at qu0; have zu0 := kc3.frozen 0; have Hkc3 := Lib.hid kc3; clear kc3
  go_wp2_with fail
  have kt : Blk (w3.alloc (.cells #[.bool false, .bool false, .slice none 0 0] 47)) w3.heap.size 47 #[.bool false, .bool false, .slice none 0 0] := Blk.new _ _ _

  have g04 := g03.alloc (.cells #[.bool false, .bool false, .slice none 0 0] 47)
  refine (KL.out b A c _ (H3.out.step (by (repeat' (first | (with_reducible exact Below.refl _ _) | (with_reducible assumption) | (with_reducible refine balloc ?_ _) | (with_reducible refine Below.drew ?_) | (with_reducible refine bset ?_ ?_ _) | (with_reducible refine bstep ?_ (by with_reducible assumption)) | (with_reducible refine bturn ?_ (by with_reducible assumption) ?_) | go_size))))).mono ?_
  rintro e w4 ⟨⟨B, cp, rfl, hRM, hbase⟩, h4, g4⟩
  have hz4 := g4.size
  simp only [World.size_alloc] at hz4 hbase
  have kc4 := (KC3.out.alloc _).gr g4 (by omega)
  have kr4 := (kr3.alloc _).gr g4 (by omega)
  have kt4 := kt.gr g4 (by omega)
  have g24 := g04.trans g4
  clear kr3 kt g4 g04 g03
  have hRB : ∀ g o, B = some ⟨g, o, none⟩ → w3.heap.size + 1 ≤ g := fun g o e => by have := hbase g o e; omega
  have HB := Lib.hid hRB
  have HRM := Lib.hid hRM
  have H4 := Lib.hid h4
  have KT4 := Lib.hid kt4
  have KC4 := Lib.hid kc4
  clear hRM hRB hbase h4 KL KT H3 KC3 qu0 zu0 hlu hllu kc4
  have hlt := kt4.lt; have hllt := lts hlt; have qt0 := kt4.cell 0; have qt1 := kt4.cell 1; have qt2 := kt4.cell 2; simp at qt0 qt1 qt2; have zt0 := kt4.frozen 0; have zt1 := kt4.frozen 1; have zt2 := kt4.frozen 2; have Hkt4 := Lib.hid kt4; clear kt4
  go_upto_region 8 with fail
  have kt5 : Blk (w4.setCell ⟨w3.heap.size, 2, none⟩ (.slice B L.length cp)) w3.heap.size 47 #[.bool false, .bool false, .slice B L.length cp] := by
    have := KT4.out.set_ 2 (.slice B L.length cp)
    simpa using this
  have t5 : Turned w4 (w4.setCell ⟨w3.heap.size, 2, none⟩ (.slice B L.length cp)) w3.heap.size := Turned.setCell _ _ _ _
  generalize w4.setCell ⟨w3.heap.size, 2, none⟩ (.slice B L.length cp) = w5 at *
  have kc5 := KC4.out.turn t5 (by omega)
  have kr5 := kr4.turn t5 (by omega)
  have h5 : PB w5 b A c p2 := H2.out.turnF HL2.out.symm H4.out t5 (by omega)
  have g25 : Gr b w2 w5 := Gr.turnFar g24 t5 (by omega)
  have rm5 : RM clT 13 w5 B L := HRM.out.gr ((Gr.refl w3.heap.size w4).turn t5) (fun g o e => by have := HB.out g o e; omega)
  have hz5 := t5.size
  clear HRM H4 KT4 KC4 kr4 g24 t5 qt0 qt1 qt2 zt0 zt1 zt2 hlt hllt Hkt4
  have KT5 := Lib.hid kt5
  have KC5 := Lib.hid kc5

  obtain ⟨w6, hw6⟩ : ∃ x, x = w5 := ⟨_, rfl⟩
  subst hw6
  have hz6 : w4.heap.size ≤ w6.heap.size := by omega
  have kt6 := kt5
  have kr6 := kr5
  have h6 := h5
  have g26 := g25
  have rm6 := rm5
  have KC6 := KC5
  clear kr5 h5 g25 rm5 KT5
  have hlt := kt5.lt; have hllt := lts hlt; have qt0 := kt5.cell 0; have qt1 := kt5.cell 1; have qt2 := kt5.cell 2; simp at qt0 qt1 qt2; have zt0 := kt5.frozen 0; have zt1 := kt5.frozen 1; have zt2 := kt5.frozen 2; have Hkt5 := Lib.hid kt5; clear kt5
  have hlu := kc5.lt; have hllu := lts hlu; have qu0 := kc5.cell 0; simp at qu0; have zu0 := kc5.frozen 0; have Hkc5 := Lib.hid kc5; clear kc5
  go_wp2_with fail
  refine (KE.out b A c p2 _ h6).mono ?_
  rintro e w7 ⟨rfl, hb7⟩
  have kc7 := KC6.out.step hb7
  have kr7 := kr6.step hb7
  have kt7 := Lib.hid (kt6.step hb7)
  have h7 := h6.step hb7
  have g27 := g26.bstep hb7
  have rm7 := Lib.hid (rm6.step hb7)
  have hz7 := hb7.size
  clear KC6 kr6 kt6 h6 g26 rm6 hb7 qu0 zu0 hlu hllu qt0 qt1 qt2 zt0 zt1 zt2 hlt hllt
  have KC7 := Lib.hid kc7
  by_cases he : p2.e = 0
  · cases hE : p2.ended with
    | false =>
      have KD3 := Lib.hid (KD.out b A c p2)
      rw [hE] at KD3
      obtain ⟨p4, hp4⟩ : ∃ q, p2.fail 5 = q := ⟨_, rfl⟩
      have hp4e : p4.e = 5 := by rw [← hp4]; unfold PS.fail; rw [if_pos he]
      have KF3 := Lib.hid (KF.out b A c p2)
      rw [hp4] at KF3
      have HF : Hid (outT false L p2 = (zeroTs, p4.a, 5)) := Lib.hid (by rw [← hp4]; exact out_1 he hE)
      clear hp4 hE
      have hlu := kc7.lt; have hllu := lts hlu; have qu0 := kc7.cell 0; simp at qu0; have zu0 := kc7.frozen 0; have Hkc7 := Lib.hid kc7; clear kc7
      go_wp2_with fail
      refine (KD3.out _ h7).mono ?_
      rintro e w8 ⟨rfl, hb8⟩
      have kc8 := KC7.out.step hb8
      have kr8 := kr7.step hb8
      have h8 := h7.step hb8
      have g28 := g27.bstep hb8
      have hz8 := hb8.size
      have KC8 := Lib.hid kc8
      clear kr7 h7 g27 hb8 qu0 zu0 hlu hllu
      have hlu := kc8.lt; have hllu := lts hlu; have qu0 := kc8.cell 0; simp at qu0; have zu0 := kc8.frozen 0; have Hkc8 := Lib.hid kc8; clear kc8
      go_wp2_with fail
      refine (KF3.out _ h8).mono ?_
      rintro e w9 ⟨rfl, h9, g9⟩
      have hz9 := g9.size
      have kc9 := KC8.out.gr g9 (by omega)
      have kr9 := kr8.gr g9 (by omega)
      have g29 := g28.trans g9
      clear kr8 h8 g28 g9 qu0 zu0 hlu hllu
      have hlu := kc9.lt; have hllu := lts hlu; have qu0 := kc9.cell 0; simp at qu0; have zu0 := kc9.frozen 0; have Hkc9 := Lib.hid kc9; clear kc9
      go_wp2_with fail
      refine (KE.out b A c p4 _ h9).mono ?_
      rintro e w10 ⟨rfl, hb10⟩
      have kr10 := kr9.step hb10
      have g210 := g29.bstep hb10
      rw [hp4e]
      clear kr9 g29 hb10 qu0 zu0 hlu hllu
      go_wp2_with (refine wpList_store_blk kr10 rfl _ _ _ (by rfl) _ (by rfl) (by rfl) (by (repeat (first | (with_reducible exact kr10) | (with_reducible refine Blk.alloc ?_ _) | (with_reducible refine Blk.drew ?_) | (with_reducible refine Blk.far ?_ (by first | (simp; done) | (simp; omega)) _) | (with_reducible refine Blk.turn ?_ (by with_reducible assumption) (by omega))))) (by rfl) (by kernel_rfl) (by simp [Value.oneCell']) ?_; intro wt kr10n ht)
      refine ret_blk3 rfl kr10n rfl Tryz.underlying47 rfl (by kernel_rfl) rfl ?_
      exact ⟨by rw [HF.out]; exact ⟨none, 0, rfl, RM.nil _ _, fun g o h => by cases h⟩, bturn (Gr.below g210 hb02 (by omega)) ht (Nat.le_refl _)⟩
    | true =>
      have KD3 := Lib.hid (KD.out b A c p2)
      rw [hE] at KD3
      have HF : Hid (outT false L p2 = (⟨false, false, L⟩, 0, 0)) := Lib.hid (out_2 he hE)
      clear hE
      have hlu := kc7.lt; have hllu := lts hlu; have qu0 := kc7.cell 0; simp at qu0; have zu0 := kc7.frozen 0; have Hkc7 := Lib.hid kc7; clear kc7
      go_wp2_with fail
      refine (KD3.out _ h7).mono ?_
      rintro e w8 ⟨rfl, hb8⟩
      have kc8 := KC7.out.step hb8
      have kr8 := kr7.step hb8
      have kt8 := Lib.hid (kt7.out.step hb8)
      have h8 := h7.step hb8
      have g28 := g27.bstep hb8
      have rm8 := Lib.hid (rm7.out.step hb8)
      have hz8 := hb8.size
      clear kr7 h7 g27 hb8 qu0 zu0 hlu hllu
      have hlu := kc8.lt; have hllu := lts hlu; have qu0 := kc8.cell 0; simp at qu0; have zu0 := kc8.frozen 0; have Hkc8 := Lib.hid kc8; clear kc8
      go_wp2_with fail
      refine (KE.out b A c p2 _ h8).mono ?_
      rintro e w9 ⟨rfl, hb9⟩
      have kt9 := kt8.out.step hb9
      have kr9 := kr8.step hb9
      have g29 := g28.bstep hb9
      have rm9 := Lib.hid (rm8.out.step hb9)
      have hz9 := hb9.size
      clear kr8 h8 g28 hb9 qu0 zu0 hlu hllu
      go_wp2_with (first | (refine wpList_load_blk kt9 rfl _ _ (by rfl) (by rfl) (by (repeat (first | (with_reducible exact kt9) | (with_reducible refine Blk.alloc ?_ _) | (with_reducible refine Blk.drew ?_) | (with_reducible refine Blk.far ?_ (by first | (simp; done) | (simp; omega)) _) | (with_reducible refine Blk.turn ?_ (by with_reducible assumption) (by omega))))) _ Tryz.underlying47 rfl (by kernel_rfl) ?_) | (refine wpList_store_blk kr9 rfl _ _ _ (by rfl) _ (by rfl) (by rfl) (by (repeat (first | (with_reducible exact kr9) | (with_reducible refine Blk.alloc ?_ _) | (with_reducible refine Blk.drew ?_) | (with_reducible refine Blk.far ?_ (by first | (simp; done) | (simp; omega)) _) | (with_reducible refine Blk.turn ?_ (by with_reducible assumption) (by omega))))) (by rfl) (by kernel_rfl) (by simp [Value.oneCell']) ?_; intro wt kr9n ht))
      refine ret_blk3 rfl kr9n rfl Tryz.underlying47 rfl (by kernel_rfl) rfl ?_
      exact ⟨by rw [HF.out]; exact ⟨B, cp, rfl, rm9.out.gr ((Gr.refl w.heap.size w9).turn ht) (fun g o e => by have := HB.out g o e; omega), fun g o e => by have := HB.out g o e; omega⟩, bturn (Gr.below g29 hb02 (by omega)) ht (Nat.le_refl _)⟩
  · have hneb : (p2.e != 0) = true := by simpa using he
    have HF : Hid (outT false L p2 = (zeroTs, p2.a, p2.e)) := Lib.hid (out_3 he)
    have hlu := kc7.lt; have hllu := lts hlu; have qu0 := kc7.cell 0; simp at qu0; have zu0 := kc7.frozen 0; have Hkc7 := Lib.hid kc7; clear kc7
    go_wp2_with fail
    refine (KE.out b A c p2 _ h7).mono ?_
    rintro e w9 ⟨rfl, hb9⟩
    have kr9 := kr7.step hb9
    have g29 := g27.bstep hb9
    clear kr7 h7 g27 hb9 qu0 zu0 hlu hllu
    go_wp2_with (refine wpList_store_blk kr9 rfl _ _ _ (by rfl) _ (by rfl) (by rfl) (by (repeat (first | (with_reducible exact kr9) | (with_reducible refine Blk.alloc ?_ _) | (with_reducible refine Blk.drew ?_) | (with_reducible refine Blk.far ?_ (by first | (simp; done) | (simp; omega)) _) | (with_reducible refine Blk.turn ?_ (by with_reducible assumption) (by omega))))) (by rfl) (by kernel_rfl) (by simp [Value.oneCell']) ?_; intro wt kr9n ht)
    refine ret_blk3 rfl kr9n rfl Tryz.underlying47 rfl (by kernel_rfl) rfl ?_
    exact ⟨by rw [HF.out]; exact ⟨none, 0, rfl, RM.nil _ _, fun g o h => by cases h⟩, bturn (Gr.below g29 hb02 (by omega)) ht (Nat.le_refl _)⟩
set_option maxHeartbeats 16000000 in
set_option maxRecDepth 100000 in
theorem uparse_t (hTA : Hid TestAny) (s tr : ByteArray) (htr : (tr.toList == [45]) = false) (p0 : PS) (hok : ∀ t ∈ p0.L, tkOK t) (hN : p0.isS notB = true) (w : World)
    (HT : Hid (∀ W, Below w.heap.size w W → Calls Tryz.prog 58 #[.string s, .string ⟨#[32, 9, 13, 10]⟩] W fun e w' => e = .returned (.string tr) ∧ Below W.heap.size W w'))
    (HP : Hid (∀ W, Below w.heap.size w W → Calls Tryz.prog 41 #[.string s] W fun e w' => ∃ b A c, e = .returned (.pointer (some ⟨b, 0, none⟩)) ∧ W.heap.size ≤ b ∧ PB w' b A c p0 ∧ Below W.heap.size W w')) :
    Calls Tryz.prog 27 #[.string s] w fun e w' => UPOut w w' (readT p0) e ∧ Below w.heap.size w w' := by
  obtain ⟨p1, hp1⟩ : ∃ q, p0.adv.need [40] = q := ⟨_, rfl⟩
  have hL1 : p1.L = p0.L := by rw [← hp1, need_L]; rfl
  have hr : readT p0 = outT true p1.tests.1 (p1.tests.2.need [41]) := by unfold readT; rw [if_pos hN, hp1]
  have hL3 : (p1.tests.2.need [41]).L = p0.L := by rw [need_L]; unfold PS.tests; rw [more_L, test_L, hL1]
  have KT := Lib.hid (fun (b : Nat) (A : Option Addr) (c : Nat) (W : World) (h : PB W b A c p0) => take_any b A c p0 notB W h)
  have KL := Lib.hid (fun (b : Nat) (A : Option Addr) (c : Nat) (W : World) (h : PB W b A c p1) => list_any b A c p1 W h (Lib.hid fun q hq W h => hTA.out b A c q W h (by rw [hq, hL1]; exact hok)))
  have KE := Lib.hid (fun (b : Nat) (A : Option Addr) (c : Nat) (q : PS) (W : World) (h : PB W b A c q) => error_any b A c q W h)
  have KD := Lib.hid (fun (b : Nat) (A : Option Addr) (c : Nat) (q : PS) (W : World) (h : PB W b A c q) => ended_any b A c q W h)
  have KF := Lib.hid (fun (b : Nat) (A : Option Addr) (c : Nat) (q : PS) (W : World) (h : PB W b A c q) => fail_any b A c q 5 W h)
  have KN1 := Lib.hid (fun (b : Nat) (A : Option Addr) (c : Nat) (W : World) (h : PB W b A c p0.adv) => need_any b A c p0.adv [40] W h)
  have KN2 := Lib.hid (fun (b : Nat) (A : Option Addr) (c : Nat) (W : World) (h : PB W b A c p1.tests.2) => need_any b A c p1.tests.2 [41] W h)
  rw [hp1] at KN1
  rw [hN, take_yes hN] at KT
  rw [hr]
  obtain ⟨L, hL⟩ : ∃ L, p1.tests.1 = L := ⟨_, rfl⟩
  obtain ⟨p2, hp2⟩ : ∃ q, p1.tests.2 = q := ⟨_, rfl⟩
  rw [hL, hp2] at KL
  rw [hp2] at KN2
  obtain ⟨p3, hp3⟩ : ∃ q, p2.need [41] = q := ⟨_, rfl⟩
  rw [hp3] at KN2
  rw [hL, hp2, hp3]
  rw [hp2, hp3] at hL3
  have HL1 := Lib.hid hL1
  have HL2 : Hid (p2.L = p0.L) := Lib.hid (by rw [← hp2]; unfold PS.tests; rw [more_L, test_L, hL1])
  have HL3 := Lib.hid hL3
  have k1 : Blk (w.alloc (.cells #[.bool false, .bool false, .slice none 0 0] 47)) w.heap.size 47 #[.bool false, .bool false, .slice none 0 0] := Blk.new _ _ _
  clear hTA hok hN hr hp1 hL1 hL3 hL hp2 hp3
  go_enter Tryz.func27, Tryz.ntmps27
  go_wp2_with fail
  refine (HT.out _ (by (repeat' (first | (with_reducible exact Below.refl _ _) | (with_reducible assumption) | (with_reducible refine balloc ?_ _) | (with_reducible refine Below.drew ?_) | (with_reducible refine bset ?_ ?_ _) | (with_reducible refine bstep ?_ (by with_reducible assumption)) | (with_reducible refine bturn ?_ (by with_reducible assumption) ?_) | go_size)))).mono ?_
  rintro e w1 ⟨rfl, hb1⟩
  have k2 := k1.step hb1
  have hb01 : Below w.heap.size w w1 := by (repeat' (first | (with_reducible exact Below.refl _ _) | (with_reducible assumption) | (with_reducible refine balloc ?_ _) | (with_reducible refine Below.drew ?_) | (with_reducible refine bset ?_ ?_ _) | (with_reducible refine bstep ?_ (by with_reducible assumption)) | (with_reducible refine bturn ?_ (by with_reducible assumption) ?_) | go_size))
  clear k1 HT
  go_wp2_with fail
  refine (HP.out _ (by (repeat' (first | (with_reducible exact Below.refl _ _) | (with_reducible assumption) | (with_reducible refine balloc ?_ _) | (with_reducible refine Below.drew ?_) | (with_reducible refine bset ?_ ?_ _) | (with_reducible refine bstep ?_ (by with_reducible assumption)) | (with_reducible refine bturn ?_ (by with_reducible assumption) ?_) | go_size)))).mono ?_
  rintro e w2 ⟨b, A, c, rfl, hbb, h2, hb2⟩
  have k3 := k2.step hb2
  have hb02 : Below w.heap.size w w2 := by (repeat' (first | (with_reducible exact Below.refl _ _) | (with_reducible assumption) | (with_reducible refine balloc ?_ _) | (with_reducible refine Below.drew ?_) | (with_reducible refine bset ?_ ?_ _) | (with_reducible refine bstep ?_ (by with_reducible assumption)) | (with_reducible refine bturn ?_ (by with_reducible assumption) ?_) | go_size))
  have hlb := h2.blk.lt
  have hl3 := k3.lt
  have H2 := Lib.hid h2
  have hz1 := hb01.size
  have hz0 := hb1.size
  simp only [World.size_alloc] at hz0
  clear k2 HP h2 hb1 hb2 hb01
  go_wp2_with fail
  have kc : Blk (w2.alloc (.cells #[.pointer (some ⟨b, 0, none⟩)] 87)) w2.heap.size 87 #[.pointer (some ⟨b, 0, none⟩)] := Blk.new _ _ _
  refine (KT.out b A c _ (H2.out.step (by (repeat' (first | (with_reducible exact Below.refl _ _) | (with_reducible assumption) | (with_reducible refine balloc ?_ _) | (with_reducible refine Below.drew ?_) | (with_reducible refine bset ?_ ?_ _) | (with_reducible refine bstep ?_ (by with_reducible assumption)) | (with_reducible refine bturn ?_ (by with_reducible assumption) ?_) | go_size))))).mono ?_
  rintro e w3 ⟨rfl, h3, g3⟩
  have g03 : Gr b w2 w3 := (Gr.of (by (repeat' (first | (with_reducible exact Below.refl _ _) | (with_reducible assumption) | (with_reducible refine balloc ?_ _) | (with_reducible refine Below.drew ?_) | (with_reducible refine bset ?_ ?_ _) | (with_reducible refine bstep ?_ (by with_reducible assumption)) | (with_reducible refine bturn ?_ (by with_reducible assumption) ?_) | go_size)))).trans g3
  have hz3 := g3.size
  simp only [World.size_alloc] at hz3
  have kc3 := kc.gr g3 (by omega)
  have kr3 := k3.gr g03 (by omega)
  have H3 := Lib.hid h3
  clear kc k3 h3 g3
  have KC3 := Lib.hid kc3
  have hlu := kc3.lt; have hllu := lts hlu; have qu0 := kc3.cell 0; simp at qu0; have zu0 := kc3.frozen 0; have Hkc3 := Lib.hid kc3; clear kc3
  go_wp2_with fail
  have kt : Blk (w3.alloc (.cells #[.bool false, .bool true, .slice none 0 0] 47)) w3.heap.size 47 #[.bool false, .bool true, .slice none 0 0] := Blk.new _ _ _

  refine (KN1.out b A c _ (H3.out.step (by (repeat' (first | (with_reducible exact Below.refl _ _) | (with_reducible assumption) | (with_reducible refine balloc ?_ _) | (with_reducible refine Below.drew ?_) | (with_reducible refine bset ?_ ?_ _) | (with_reducible refine bstep ?_ (by with_reducible assumption)) | (with_reducible refine bturn ?_ (by with_reducible assumption) ?_) | go_size))))).mono ?_
  rintro e w3b ⟨rfl, h3b, g3b⟩
  have hz3b := g3b.size
  simp only [World.size_alloc] at hz3b
  have g04 := (g03.alloc (.cells #[.bool false, .bool true, .slice none 0 0] 47)).trans g3b
  have kc3b := (KC3.out.alloc _).gr g3b (by omega)
  have kr3b := (kr3.alloc _).gr g3b (by omega)
  have kt3b := kt.gr g3b (by omega)
  have KC3b := Lib.hid kc3b
  clear kr3 kt g3b g03 KN1 qu0 zu0 hlu hllu
  have hlu := kc3b.lt; have hllu := lts hlu; have qu0 := kc3b.cell 0; simp at qu0; have zu0 := kc3b.frozen 0; have Hkc3b := Lib.hid kc3b; clear kc3b
  go_wp2_with fail
  refine (KL.out b A c _ h3b).mono ?_
  rintro e w4 ⟨⟨B, cp, rfl, hRM, hbase⟩, h4, g4⟩
  have hz4 := g4.size
  have kc4 := KC3b.out.gr g4 (by omega)
  have kr4 := kr3b.gr g4 (by omega)
  have kt4 := kt3b.gr g4 (by omega)
  have g24 := g04.trans g4
  clear kr3b kt3b g4 g04 h3b
  have hRB : ∀ g o, B = some ⟨g, o, none⟩ → w3.heap.size + 1 ≤ g := fun g o e => by have := hbase g o e; omega
  have HB := Lib.hid hRB
  have HRM := Lib.hid hRM
  have H4 := Lib.hid h4
  have KT4 := Lib.hid kt4
  have KC4 := Lib.hid kc4
  clear hRM hRB hbase h4 KL KT H3 KC3 qu0 zu0 hlu hllu kc4
  have hlt := kt4.lt; have hllt := lts hlt; have qt0 := kt4.cell 0; have qt1 := kt4.cell 1; have qt2 := kt4.cell 2; simp at qt0 qt1 qt2; have zt0 := kt4.frozen 0; have zt1 := kt4.frozen 1; have zt2 := kt4.frozen 2; have Hkt4 := Lib.hid kt4; clear kt4
  go_upto_region 8 with fail
  have kt5 : Blk (w4.setCell ⟨w3.heap.size, 2, none⟩ (.slice B L.length cp)) w3.heap.size 47 #[.bool false, .bool true, .slice B L.length cp] := by
    have := KT4.out.set_ 2 (.slice B L.length cp)
    simpa using this
  have t5 : Turned w4 (w4.setCell ⟨w3.heap.size, 2, none⟩ (.slice B L.length cp)) w3.heap.size := Turned.setCell _ _ _ _
  generalize w4.setCell ⟨w3.heap.size, 2, none⟩ (.slice B L.length cp) = w5 at *
  have kc5 := KC4.out.turn t5 (by omega)
  have kr5 := kr4.turn t5 (by omega)
  have h5 : PB w5 b A c p2 := H2.out.turnF HL2.out.symm H4.out t5 (by omega)
  have g25 : Gr b w2 w5 := Gr.turnFar g24 t5 (by omega)
  have rm5 : RM clT 13 w5 B L := HRM.out.gr ((Gr.refl w3.heap.size w4).turn t5) (fun g o e => by have := HB.out g o e; omega)
  have hz5 := t5.size
  clear HRM H4 KT4 KC4 kr4 g24 t5 qt0 qt1 qt2 zt0 zt1 zt2 hlt hllt Hkt4
  have KT5 := Lib.hid kt5
  have KC5 := Lib.hid kc5

  have hlt := kt5.lt; have hllt := lts hlt; have qt0 := kt5.cell 0; have qt1 := kt5.cell 1; have qt2 := kt5.cell 2; simp at qt0 qt1 qt2; have zt0 := kt5.frozen 0; have zt1 := kt5.frozen 1; have zt2 := kt5.frozen 2; have Hkt5 := Lib.hid kt5; clear kt5
  have hlu := kc5.lt; have hllu := lts hlu; have qu0 := kc5.cell 0; simp at qu0; have zu0 := kc5.frozen 0; have Hkc5 := Lib.hid kc5; clear kc5
  go_wp2_with fail
  refine (KN2.out b A c _ h5).mono ?_
  rintro e w6 ⟨rfl, h6, g6⟩
  have hz6 := g6.size
  have kc6 := KC5.out.gr g6 (by omega)
  have kr6 := kr5.gr g6 (by omega)
  have kt6 := KT5.out.gr g6 (by omega)
  have g26 := g25.trans g6
  have rm6 := rm5.gr g6 (fun g o e => by have := HB.out g o e; omega)
  clear qt0 qt1 qt2 zt0 zt1 zt2 hlt hllt Hkt5 qu0 zu0 hlu hllu Hkc5 kr5 h5 g25 rm5 g6 KN2 KT5 KC5
  have KC6 := Lib.hid kc6
  have hlu := kc6.lt; have hllu := lts hlu; have qu0 := kc6.cell 0; simp at qu0; have zu0 := kc6.frozen 0; have Hkc6 := Lib.hid kc6; clear kc6
  go_wp2_with fail
  refine (KE.out b A c p3 _ h6).mono ?_
  rintro e w7 ⟨rfl, hb7⟩
  have kc7 := KC6.out.step hb7
  have kr7 := kr6.step hb7
  have kt7 := Lib.hid (kt6.step hb7)
  have h7 := h6.step hb7
  have g27 := g26.bstep hb7
  have rm7 := Lib.hid (rm6.step hb7)
  have hz7 := hb7.size
  clear KC6 kr6 kt6 h6 g26 rm6 hb7 qu0 zu0 hlu hllu 
  have KC7 := Lib.hid kc7
  by_cases he : p3.e = 0
  · cases hE : p3.ended with
    | false =>
      have KD3 := Lib.hid (KD.out b A c p3)
      rw [hE] at KD3
      obtain ⟨p4, hp4⟩ : ∃ q, p3.fail 5 = q := ⟨_, rfl⟩
      have hp4e : p4.e = 5 := by rw [← hp4]; unfold PS.fail; rw [if_pos he]
      have KF3 := Lib.hid (KF.out b A c p3)
      rw [hp4] at KF3
      have HF : Hid (outT true L p3 = (zeroTs, p4.a, 5)) := Lib.hid (by rw [← hp4]; exact out_1 he hE)
      clear hp4 hE
      have hlu := kc7.lt; have hllu := lts hlu; have qu0 := kc7.cell 0; simp at qu0; have zu0 := kc7.frozen 0; have Hkc7 := Lib.hid kc7; clear kc7
      go_wp2_with fail
      refine (KD3.out _ h7).mono ?_
      rintro e w8 ⟨rfl, hb8⟩
      have kc8 := KC7.out.step hb8
      have kr8 := kr7.step hb8
      have h8 := h7.step hb8
      have g28 := g27.bstep hb8
      have hz8 := hb8.size
      have KC8 := Lib.hid kc8
      clear kr7 h7 g27 hb8 qu0 zu0 hlu hllu
      have hlu := kc8.lt; have hllu := lts hlu; have qu0 := kc8.cell 0; simp at qu0; have zu0 := kc8.frozen 0; have Hkc8 := Lib.hid kc8; clear kc8
      go_wp2_with fail
      refine (KF3.out _ h8).mono ?_
      rintro e w9 ⟨rfl, h9, g9⟩
      have hz9 := g9.size
      have kc9 := KC8.out.gr g9 (by omega)
      have kr9 := kr8.gr g9 (by omega)
      have g29 := g28.trans g9
      clear kr8 h8 g28 g9 qu0 zu0 hlu hllu
      have hlu := kc9.lt; have hllu := lts hlu; have qu0 := kc9.cell 0; simp at qu0; have zu0 := kc9.frozen 0; have Hkc9 := Lib.hid kc9; clear kc9
      go_wp2_with fail
      refine (KE.out b A c p4 _ h9).mono ?_
      rintro e w10 ⟨rfl, hb10⟩
      have kr10 := kr9.step hb10
      have g210 := g29.bstep hb10
      rw [hp4e]
      clear kr9 g29 hb10 qu0 zu0 hlu hllu
      go_wp2_with (refine wpList_store_blk kr10 rfl _ _ _ (by rfl) _ (by rfl) (by rfl) (by (repeat (first | (with_reducible exact kr10) | (with_reducible refine Blk.alloc ?_ _) | (with_reducible refine Blk.drew ?_) | (with_reducible refine Blk.far ?_ (by first | (simp; done) | (simp; omega)) _) | (with_reducible refine Blk.turn ?_ (by with_reducible assumption) (by omega))))) (by rfl) (by kernel_rfl) (by simp [Value.oneCell']) ?_; intro wt kr10n ht)
      refine ret_blk3 rfl kr10n rfl Tryz.underlying47 rfl (by kernel_rfl) rfl ?_
      exact ⟨by rw [HF.out]; exact ⟨none, 0, rfl, RM.nil _ _, fun g o h => by cases h⟩, bturn (Gr.below g210 hb02 (by omega)) ht (Nat.le_refl _)⟩
    | true =>
      have KD3 := Lib.hid (KD.out b A c p3)
      rw [hE] at KD3
      have HF : Hid (outT true L p3 = (⟨false, true, L⟩, 0, 0)) := Lib.hid (out_2 he hE)
      clear hE
      have hlu := kc7.lt; have hllu := lts hlu; have qu0 := kc7.cell 0; simp at qu0; have zu0 := kc7.frozen 0; have Hkc7 := Lib.hid kc7; clear kc7
      go_wp2_with fail
      refine (KD3.out _ h7).mono ?_
      rintro e w8 ⟨rfl, hb8⟩
      have kc8 := KC7.out.step hb8
      have kr8 := kr7.step hb8
      have kt8 := Lib.hid (kt7.out.step hb8)
      have h8 := h7.step hb8
      have g28 := g27.bstep hb8
      have rm8 := Lib.hid (rm7.out.step hb8)
      have hz8 := hb8.size
      clear kr7 h7 g27 hb8 qu0 zu0 hlu hllu
      have hlu := kc8.lt; have hllu := lts hlu; have qu0 := kc8.cell 0; simp at qu0; have zu0 := kc8.frozen 0; have Hkc8 := Lib.hid kc8; clear kc8
      go_wp2_with fail
      refine (KE.out b A c p3 _ h8).mono ?_
      rintro e w9 ⟨rfl, hb9⟩
      have kt9 := kt8.out.step hb9
      have kr9 := kr8.step hb9
      have g29 := g28.bstep hb9
      have rm9 := Lib.hid (rm8.out.step hb9)
      have hz9 := hb9.size
      clear kr8 h8 g28 hb9 qu0 zu0 hlu hllu
      go_wp2_with (first | (refine wpList_load_blk kt9 rfl _ _ (by rfl) (by rfl) (by (repeat (first | (with_reducible exact kt9) | (with_reducible refine Blk.alloc ?_ _) | (with_reducible refine Blk.drew ?_) | (with_reducible refine Blk.far ?_ (by first | (simp; done) | (simp; omega)) _) | (with_reducible refine Blk.turn ?_ (by with_reducible assumption) (by omega))))) _ Tryz.underlying47 rfl (by kernel_rfl) ?_) | (refine wpList_store_blk kr9 rfl _ _ _ (by rfl) _ (by rfl) (by rfl) (by (repeat (first | (with_reducible exact kr9) | (with_reducible refine Blk.alloc ?_ _) | (with_reducible refine Blk.drew ?_) | (with_reducible refine Blk.far ?_ (by first | (simp; done) | (simp; omega)) _) | (with_reducible refine Blk.turn ?_ (by with_reducible assumption) (by omega))))) (by rfl) (by kernel_rfl) (by simp [Value.oneCell']) ?_; intro wt kr9n ht))
      refine ret_blk3 rfl kr9n rfl Tryz.underlying47 rfl (by kernel_rfl) rfl ?_
      exact ⟨by rw [HF.out]; exact ⟨B, cp, rfl, rm9.out.gr ((Gr.refl w.heap.size w9).turn ht) (fun g o e => by have := HB.out g o e; omega), fun g o e => by have := HB.out g o e; omega⟩, bturn (Gr.below g29 hb02 (by omega)) ht (Nat.le_refl _)⟩
  · have hneb : (p3.e != 0) = true := by simpa using he
    have HF : Hid (outT true L p3 = (zeroTs, p3.a, p3.e)) := Lib.hid (out_3 he)
    have hlu := kc7.lt; have hllu := lts hlu; have qu0 := kc7.cell 0; simp at qu0; have zu0 := kc7.frozen 0; have Hkc7 := Lib.hid kc7; clear kc7
    go_wp2_with fail
    refine (KE.out b A c p3 _ h7).mono ?_
    rintro e w9 ⟨rfl, hb9⟩
    have kr9 := kr7.step hb9
    have g29 := g27.bstep hb9
    clear kr7 h7 g27 hb9 qu0 zu0 hlu hllu
    go_wp2_with (refine wpList_store_blk kr9 rfl _ _ _ (by rfl) _ (by rfl) (by rfl) (by (repeat (first | (with_reducible exact kr9) | (with_reducible refine Blk.alloc ?_ _) | (with_reducible refine Blk.drew ?_) | (with_reducible refine Blk.far ?_ (by first | (simp; done) | (simp; omega)) _) | (with_reducible refine Blk.turn ?_ (by with_reducible assumption) (by omega))))) (by rfl) (by kernel_rfl) (by simp [Value.oneCell']) ?_; intro wt kr9n ht)
    refine ret_blk3 rfl kr9n rfl Tryz.underlying47 rfl (by kernel_rfl) rfl ?_
    exact ⟨by rw [HF.out]; exact ⟨none, 0, rfl, RM.nil _ _, fun g o h => by cases h⟩, bturn (Gr.below g29 hb02 (by omega)) ht (Nat.le_refl _)⟩
theorem uparse_any (hTA : Hid TestAny) (m : Int) (s : ByteArray) (hs : s.size ≤ 9223372036854775807) (w : World) (hw : OKW m w) :
    Calls Tryz.prog 27 #[.string s] w fun e w' => UPOut w w' (unaryS (lxX m) s.data.toList) e ∧ Below w.heap.size w w' := by
  have HT := Lib.hid (fun (W : World) (_ : Below w.heap.size w W) => utrim s hs W)
  have hcmp : ((⟨(Lib.trimS s.data.toList (⟨#[32, 9, 13, 10]⟩ : ByteArray).data.toList).toArray⟩ : ByteArray).toList == [45]) = isAny s.data.toList := by
    rw [Lib.toList_data]
    exact any_trim _
  unfold unaryS
  cases ha : isAny s.data.toList with
  | true =>
    rw [if_pos rfl]
    exact uparse_any_t s _ (hcmp.trans ha) w HT
  | false =>
    rw [if_neg (by simp)]
    have HP := Lib.hid (fun (W : World) (hb : Below w.heap.size w W) => newp_any m s _ rfl W (hw.step hb))
    have hok : ∀ t ∈ (newP (toksS (lxX m) s.data.toList) s.data.toList.length).L, tkOK t := fun t ht => ((toksS_ok m w hw _).1 t ht).1
    cases hN : (newP (toksS (lxX m) s.data.toList) s.data.toList.length).isS notB with
    | true => exact uparse_t hTA s _ (hcmp.trans ha) _ hok hN w HT HP
    | false => exact uparse_f hTA s _ (hcmp.trans ha) _ hok hN w HT HP
end Go.Proofs.YtkkeplmaphcblaaGreatDoor

namespace Go.Proofs.YtkkeplmaphcblaaGreatDoor
open Go.RowKit

/-- A parser of sound tokens, and its places lie in the text. -/
structure POK (N : Nat) (p : PS) : Prop where
  en : p.en ≤ N
  lo : 0 ≤ p.a
  hi : p.a ≤ N
  tk : ∀ t ∈ p.L, tkOK t ∧ t.a ≤ N
section
variable {N : Nat} {p : PS}
theorem POK.at_ (h : POK N p) : 0 ≤ p.at' ∧ p.at' ≤ N := by
  unfold PS.at'
  split
  · have := h.en
    omega
  · rename_i t ht
    have := (h.tk t (List.mem_of_getElem? ht)).2
    omega
theorem POK.fail (h : POK N p) (c : Int) : POK N (p.fail c) := by
  unfold PS.fail
  split
  · exact ⟨h.en, h.at_.1, h.at_.2, h.tk⟩
  · exact h
theorem POK.adv (h : POK N p) : POK N p.adv := ⟨h.en, h.lo, h.hi, h.tk⟩
theorem POK.take (h : POK N p) (s : Bs) : POK N (p.take s) := by
  unfold PS.take
  split
  · exact h.adv
  · exact h
theorem POK.need (h : POK N p) (s : Bs) : POK N (p.need s) := by
  unfold PS.need
  split
  · exact h.adv
  · exact h.fail 5
theorem POK.lit (h : POK N p) : POK N p.lit.2 := by
  unfold PS.lit
  split
  · exact (h.take _).fail 5
  · split
    · split
      · exact (h.take _).adv
      · exact (h.take _).fail 5
    · exact (h.take _).adv
theorem POK.rank (h : POK N p) : POK N p.rank.2 := by
  unfold PS.rank
  split
  · exact h.fail 5
  · exact h.lit
theorem POK.close (h : POK N p) : POK N p.close := by
  unfold PS.close
  split
  · exact h.adv
  · exact h.fail 5
theorem POK.test (h : POK N p) : POK N p.test.2 := by
  unfold PS.test
  split
  · exact h.adv.rank
  · split
    · exact h.adv.rank
    · split
      · exact h.adv.rank
      · split
        · exact h.adv.rank
        · split
          · dsimp only
            split
            · exact ((h.adv.rank.need _).fail 5).close
            · exact (h.adv.rank.need _).rank.close
          · exact h.lit
theorem POK.more : ∀ (f : Nat) (l : List Tst) {p : PS}, POK N p → POK N (moreT f l p).2
  | 0, _, _, h => h
  | f + 1, l, p, h => by
    unfold moreT
    split
    · split
      · exact h.fail 10
      · exact POK.more f _ h.adv.test
    · exact h
theorem POK.fin (h : POK N p) : POK N p.fin := by
  unfold PS.fin
  split
  · exact h.fail 5
  · exact h

theorem valT_vs {t : Tk} {v : Vl} (ht : tkOK t) (h : valT t = some v) : vSound v := by
  unfold valT at h
  split at h
  · rename_i h1
    injection h with h
    subst h
    exact .inr (.inl ⟨rfl, (ht.1 h1).2, rfl, rfl⟩)
  · split at h
    · rename_i h2
      injection h with h
      subst h
      exact .inr (.inr (.inl ⟨rfl, rfl, rfl, rfl, (ht.2.1 h2).1, (ht.2.1 h2).2⟩))
    · split at h
      · rename_i h3
        injection h with h
        subst h
        exact .inr (.inr (.inr (.inr ⟨rfl, rfl, rfl, rfl, (ht.2.2 h3).1, (ht.2.2 h3).2⟩)))
      · split at h
        · injection h with h
          subst h
          exact .inr (.inr (.inr (.inl ⟨rfl, rfl, rfl, rfl, .inr rfl⟩)))
        · split at h
          · injection h with h
            subst h
            exact .inr (.inr (.inr (.inl ⟨rfl, rfl, rfl, rfl, .inl rfl⟩)))
          · split at h
            · injection h with h
              subst h
              exact .inl ⟨rfl, rfl, rfl, rfl, rfl⟩
            · cases h
theorem val_vs (h : POK N p) {v : Vl} (hv : p.val = some v) : vSound v := by
  unfold PS.val at hv
  split at hv
  · split at hv
    · cases hv
    · rename_i t ht
      exact valT_vs (h.tk t (List.mem_of_getElem? ht)).1 hv
  · cases hv
theorem vs_neg {v : Vl} (h : vSound v) (h1 : v.k = 1) : vSound { v with n := -v.n } := by
  obtain ⟨k, n, s, t, m⟩ := v
  simp only at h1
  subst h1
  rcases h with ⟨h1, _⟩ | ⟨_, h2, h3, h4⟩ | ⟨h1, _⟩ | ⟨h1, _⟩ | ⟨h1, _⟩
  · exact absurd (show (1 : Int) = 0 from h1) (by decide)
  · exact .inr (.inl ⟨rfl, sound_neg h2, h3, h4⟩)
  · exact absurd (show (1 : Int) = 2 from h1) (by decide)
  · exact absurd (show (1 : Int) = 3 from h1) (by decide)
  · exact absurd (show (1 : Int) = 4 from h1) (by decide)
theorem lit_vs (h : POK N p) (he : p.lit.2.e = 0) : vSound p.lit.1 := by
  unfold PS.lit at he ⊢
  cases hv : (p.take [45]).val with
  | none =>
    rw [hv] at he
    exact absurd he (fail_e (by decide))
  | some v =>
    rw [hv] at he
    simp only at he ⊢
    have hs := val_vs (h.take _) hv
    by_cases hm : p.isS [45] = true
    · rw [if_pos hm] at he ⊢
      by_cases hk : v.k = 1
      · rw [if_pos hk]
        exact vs_neg hs hk
      · rw [if_neg hk] at he
        exact absurd he (fail_e (by decide))
    · rw [if_neg hm]
      exact hs
theorem rank_vs (h : POK N p) (he : p.rank.2.e = 0) : vSound p.rank.1 ∧ vRank p.rank.1 := by
  unfold PS.rank at he ⊢
  split at he
  · exact absurd he (fail_e (by decide))
  · rename_i hc
    rw [if_neg hc]
    refine ⟨lit_vs h he, ?_⟩
    unfold vRank
    by_cases h1 : p.lit.1.k = 1
    · exact .inl h1
    · exact .inr (Classical.byContradiction fun h4 => hc ⟨he, h1, h4⟩)
theorem zero_vs : vSound zeroV := .inl ⟨rfl, rfl, rfl, rfl, rfl⟩
theorem test_vs (h : POK N p) (he : p.test.2.e = 0) : tSound p.test.1 := by
  have less : ∀ k : Int, (k = 2 ∨ k = 3 ∨ k = 4 ∨ k = 5) → p.adv.rank.2.e = 0 → tSound ⟨k, p.adv.rank.1, zeroV, false, false⟩ := fun k hk he => by
    obtain ⟨h1, h2⟩ := rank_vs h.adv he
    exact ⟨h1, zero_vs, .inr ⟨.inr ⟨hk, h2⟩, rfl, rfl, rfl⟩⟩
  unfold PS.test at he ⊢
  by_cases c1 : p.isS [60] = true
  · rw [if_pos c1] at he ⊢
    exact less 2 (.inl rfl) he
  · rw [if_neg c1] at he ⊢
    by_cases c2 : p.isS [60, 61] = true
    · rw [if_pos c2] at he ⊢
      exact less 3 (.inr (.inl rfl)) he
    · rw [if_neg c2] at he ⊢
      by_cases c3 : p.isS [62] = true
      · rw [if_pos c3] at he ⊢
        exact less 4 (.inr (.inr (.inl rfl))) he
      · rw [if_neg c3] at he ⊢
        by_cases c4 : p.isS [62, 61] = true
        · rw [if_pos c4] at he ⊢
          exact less 5 (.inr (.inr (.inr rfl))) he
        · rw [if_neg c4] at he ⊢
          by_cases c5 : p.isS [91] = true ∨ p.isS [40] = true ∨ p.isS [93] = true
          · rw [if_pos c5] at he ⊢
            dsimp only at he ⊢
            by_cases c6 : (p.adv.rank.2.need [46, 46]).rank.2.e = 0 ∧ (p.adv.rank.2.need [46, 46]).rank.1.k ≠ p.adv.rank.1.k
            · rw [if_pos c6] at he
              exact absurd he (close_pre _ (fail_e (by decide)))
            · rw [if_neg c6] at he
              have e1 : (p.adv.rank.2.need [46, 46]).rank.2.e = 0 := Classical.byContradiction fun hn => close_pre _ hn he
              have e2 : (p.adv.rank.2.need [46, 46]).e = 0 := Classical.byContradiction fun hn => rank_pre _ hn e1
              have e3 : p.adv.rank.2.e = 0 := Classical.byContradiction fun hn => need_pre _ _ hn e2
              obtain ⟨h1, h2⟩ := rank_vs h.adv e3
              obtain ⟨h3, h4⟩ := rank_vs (h.adv.rank.need [46, 46]) e1
              refine ⟨h1, h3, .inl ⟨rfl, h2, ?_⟩⟩
              exact Classical.byContradiction fun hn => c6 ⟨e1, hn⟩
          · rw [if_neg c5] at he ⊢
            exact ⟨lit_vs h he, zero_vs, .inr ⟨.inl rfl, rfl, rfl, rfl⟩⟩
theorem more_pre (f : Nat) (l : List Tst) (p : PS) (hp : ¬ p.e = 0) : ¬ (moreT f l p).2.e = 0 := by
  cases f with
  | zero => exact hp
  | succ f =>
    unfold moreT
    rw [if_neg (by rw [isS_err hp]; decide)]
    exact hp
theorem more_vs : ∀ (f : Nat) (l : List Tst) {p : PS}, POK N p → (∀ t ∈ l, tSound t) → 1 ≤ l.length → l.length ≤ 8 → (moreT f l p).2.e = 0 → (∀ t ∈ (moreT f l p).1, tSound t) ∧ 1 ≤ (moreT f l p).1.length ∧ (moreT f l p).1.length ≤ 8
  | 0, l, p, _, h1, h2, h3, _ => ⟨h1, h2, h3⟩
  | f + 1, l, p, h, h1, h2, h3, he => by
    unfold moreT at he ⊢
    by_cases c1 : p.isS [44] = true
    · rw [if_pos c1] at he ⊢
      by_cases c2 : l.length = 8
      · rw [if_pos c2] at he
        exact absurd he (fail_e (by decide))
      · rw [if_neg c2] at he ⊢
        have e1 : p.adv.test.2.e = 0 := Classical.byContradiction fun hn => more_pre _ _ _ hn he
        have ht := test_vs h.adv e1
        refine more_vs f _ h.adv.test (fun t hm => ?_) (by rw [List.length_append]; omega) (by rw [List.length_append, List.length_singleton]; omega) he
        rcases List.mem_append.1 hm with g | g
        · exact h1 t g
        · rw [List.mem_singleton.1 g]
          exact ht
    · rw [if_neg c1]
      exact ⟨h1, h2, h3⟩
theorem tests_vs (h : POK N p) (he : p.tests.2.e = 0) : (∀ t ∈ p.tests.1, tSound t) ∧ 1 ≤ p.tests.1.length ∧ p.tests.1.length ≤ 8 := by
  have e1 : p.test.2.e = 0 := Classical.byContradiction fun hn => more_pre _ _ _ hn he
  exact more_vs 9 [p.test.1] h.test (fun t ht => by rw [List.mem_singleton.1 ht]; exact test_vs h e1) (Nat.le_refl _) (by simp) he
theorem out_vs {no : Bool} {l : List Tst} (h : POK N p) (hl : p.e = 0 → (∀ t ∈ l, tSound t) ∧ 1 ≤ l.length ∧ l.length ≤ 8) : ((outT no l p).2.2 = 0 → tsSound (outT no l p).1) ∧ 0 ≤ (outT no l p).2.1 ∧ (outT no l p).2.1 ≤ N := by
  refine ⟨fun he => ?_, ?_⟩
  · obtain ⟨h1, h2⟩ := out_ok he
    rw [h2]
    obtain ⟨g1, g2, g3⟩ := hl (fin_ok h1).1
    unfold tsSound
    simp only [Bool.false_eq_true, if_false]
    exact ⟨g2, g3, g1⟩
  · unfold outT
    split
    · exact ⟨Int.le_refl _, Int.natCast_nonneg _⟩
    · exact ⟨h.fin.lo, h.fin.hi⟩
theorem read_vs (h : POK N p) : ((readT p).2.2 = 0 → tsSound (readT p).1) ∧ 0 ≤ (readT p).2.1 ∧ (readT p).2.1 ≤ N := by
  unfold readT
  split
  · refine out_vs ((h.adv.need _).test.more 9 _ |>.need _) fun he => ?_
    exact tests_vs (h.adv.need _) (Classical.byContradiction fun hn => need_pre _ _ hn he)
  · exact out_vs (h.test.more 9 _) fun he => tests_vs h he
end
theorem once_plain (m : Int) (w : World) (hw : OKW m w) (l : Bs) : ((unaryS (lxX m) l).2.2 = 0 → tsSound (unaryS (lxX m) l).1) ∧ 0 ≤ (unaryS (lxX m) l).2.1 ∧ (unaryS (lxX m) l).2.1 ≤ l.length := by
  unfold unaryS
  split
  · exact ⟨fun _ => ⟨rfl, rfl⟩, Int.le_refl _, Int.natCast_nonneg _⟩
  · obtain ⟨h1, h2, _⟩ := toksS_ok m w hw l
    exact read_vs ⟨Nat.le_refl _, Int.natCast_nonneg _, Int.ofNat_le.2 h2, h1⟩
end Go.Proofs.YtkkeplmaphcblaaGreatDoor

namespace Go.Proofs.YtkkeplmaphcblaaGreatDoor
open Go.ChangeShapes Go.WideShapes Go.ChangeAt Go.RowKit Go.Deep Go.Shelf

theorem cells_val : Tryz.prog.cellsOf 25 = 5 := by kernel_rfl
theorem cells_bool : Tryz.prog.cellsOf 4 = 1 := by kernel_rfl

section
variable {H : Type} {enc : TypeId × Value → H} {w : World} {base : Nat} {spare : Nat → Bool} {held : Bool}
set_option maxRecDepth 100000 in
theorem val_shape {fuel : Nat} {cs : List Value} {x : DataW H × List MemPlace} (h : DataW.trod enc Tryz.prog w base spare held fuel 25 cs = some x) : ∃ v : Vl, cs = (cellsV v).toList ∧ I64 v.k ∧ VOk v ∧ v.t.length ≤ maxLen := by
  obtain ⟨xs, n, _, _, hl, hxl, hf⟩ := DataW.trod_struct Tryz.underlying25 h
  rw [cells_val] at hl
  match cs, hl with
  | [c0, c1, c2, c3, c4], _ =>
    match xs, hxl with
    | [y0, y1, y2, y3], _ =>
      have h0 := hf 0 _ rfl
      have h1 := hf 1 _ rfl
      have h2 := hf 2 _ rfl
      have h3 := hf 3 _ rfl
      simp only [List.getElem?_cons_zero, List.getElem?_cons_succ] at h0 h1 h2 h3
      obtain ⟨k, e0, _, wk⟩ := DataW.trod_int Tryz.underlying3 h0
      obtain ⟨t, e2, _, wt⟩ := DataW.trod_string Tryz.underlying9 h2
      obtain ⟨m, e3, _, wm⟩ := DataW.trod_int Tryz.underlying3 h3
      obtain ⟨zs, n', _, _, _, hzl, hg⟩ := DataW.trod_struct Tryz.underlying23 h1
      match zs, hzl with
      | [z0, z1], _ =>
        have g0 := hg 0 _ rfl
        have g1 := hg 1 _ rfl
        simp only [List.getElem?_cons_zero, List.getElem?_cons_succ] at g0 g1
        obtain ⟨a, e4, _, wa⟩ := DataW.trod_int Tryz.underlying3 g0
        obtain ⟨b, e5, _, wb⟩ := DataW.trod_int Tryz.underlying3 g1
        cases e0; cases e2; cases e3; cases e4; cases e5
        exact ⟨⟨k, a, b, t.data.toList, m⟩, rfl, lit_i64 wk, ⟨lit_i64 wa, lit_i64 wb, lit_i64 wm⟩, by simpa using wt⟩
end

/-- A row of structs that came in. -/
theorem open_rm {H : Type} {enc : TypeId × Value → H} {w : World} {base : Nat} {spare : Nat → Bool} {held : Bool} {P : Program} {α : Type} [Inhabited α] {cl : α → List Value} {n : Nat} (hcl : ∀ t, (cl t).length = n) (hn0 : 0 < n) {S T : TypeId} (hu : P.underlying S = some (.slice T)) (hn : P.cellsOf T = n) {Ok : α → Prop}
    (hshape : ∀ fuel cs x, DataW.trod enc P w base spare held fuel T cs = some x → ∃ v, cs = cl v ∧ Ok v) {fuel : Nat} {cs : List Value} {x : DataW H × List MemPlace} (hf : DataW.trod enc P w base spare held fuel S cs = some x) :
    ∃ (A : Option Addr) (c : Nat) (L : List α), cs = [.slice A L.length c] ∧ RM cl n w A L ∧ L.length ≤ c ∧ c ≤ maxLen ∧ ∀ t ∈ L, Ok t := by
  rcases open_slice hu hf with ⟨hcs, _⟩ | ⟨a, len, cap, m, n', D, Pl, hcs, _, hl, hm, hmm, hx, hi⟩
  · exact ⟨none, 0, [], hcs, RM.nil _ _, by simp, by simp [maxLen], fun a ha => by simp at ha⟩
  · have hlm : len ≤ m := by rw [hmm]; split <;> omega
    have hex : ∀ i, i < len → ∃ v : α, Ok v ∧ ∀ j, j < n → w.cell? ((a.add (i * n)).add j) = (cl v)[j]? := fun i hil => by
      obtain ⟨cs', hc, ht⟩ := hi i (by omega)
      rw [hn] at hc
      obtain ⟨_, _, hat⟩ := World.cells?_some hc
      obtain ⟨v, rfl, hok⟩ := hshape _ _ _ ht
      exact ⟨v, hok, hat⟩
    obtain ⟨f, hfv⟩ := choose_lt hex
    refine ⟨some a, cap, (List.range len).map f, by simpa using hcs, ?_, by simpa using hl, hm, fun x hx => ?_⟩
    · intro i v hv
      have hil : i < len := by
        have := (List.getElem?_eq_some_iff.1 hv).1
        simpa using this
      have hv' : f i = v := by simpa [hil] using hv
      subst hv'
      have hc := (hfv i hil).2
      have hs : a.spot = none := by
        rcases Option.eq_none_or_eq_some a.spot with h | ⟨y, h⟩
        · exact h
        · exfalso
          have h2 := (hfv 0 (by omega)).2 0 hn0
          have h3 : (cl (f 0))[0]? = some ((cl (f 0))[0]'(by rw [hcl]; exact hn0)) := List.getElem?_eq_getElem _
          rw [h3] at h2
          simp [Addr.add, World.cell?, h] at h2
          split at h2 <;> simp at h2
      obtain ⟨b, o, sp⟩ := a
      simp only at hs
      subst hs
      have e : ∀ j, ((⟨b, o, none⟩ : Addr).add (i * n)).add j = ⟨b, o + i * n + j, none⟩ := fun j => by
        rw [add_add]
        unfold Addr.add
        split
        · next h => simp only [Addr.mk.injEq, and_true, true_and]; omega
        · simp only [Addr.mk.injEq, and_true, true_and]; omega
      refine ⟨b, o, rfl, fun j u hj => ?_⟩
      have hjn : j < n := by rw [← hcl (f i)]; exact (List.getElem?_eq_some_iff.1 hj).1
      have := hc j hjn
      rw [e] at this
      rw [this]
      exact hj
    · obtain ⟨i, hi', rfl⟩ := List.mem_map.1 hx
      exact (hfv i (by simpa using hi')).1
end Go.Proofs.YtkkeplmaphcblaaGreatDoor

namespace Go.Proofs.YtkkeplmaphcblaaGreatDoor
open Go.ChangeShapes Go.WideShapes Go.ChangeAt Go.RowKit Go.Deep Go.Shelf

theorem cells_tst : Tryz.prog.cellsOf 82 = 13 := by kernel_rfl
theorem cells_tsl : Tryz.prog.cellsOf 45 = 1 := by kernel_rfl

section
variable {H : Type} {enc : TypeId × Value → H} {w : World} {base : Nat} {spare : Nat → Bool} {held : Bool}
set_option maxRecDepth 100000 in
theorem tst_shape {fuel : Nat} {cs : List Value} {x : DataW H × List MemPlace} (h : DataW.trod enc Tryz.prog w base spare held fuel 82 cs = some x) : ∃ v : Tst, cs = clT v ∧ TOk v := by
  obtain ⟨xs, n, _, _, hl, hxl, hf⟩ := DataW.trod_struct Tryz.underlying82 h
  rw [cells_tst] at hl
  match cs, hl with
  | [c0, c1, c2, c3, c4, c5, c6, c7, c8, c9, c10, c11, c12], _ =>
    match xs, hxl with
    | [y0, y1, y2, y3, y4], _ =>
      have h0 := hf 0 _ rfl
      have h1 := hf 1 _ rfl
      have h2 := hf 2 _ rfl
      have h3 := hf 3 _ rfl
      have h4 := hf 4 _ rfl
      simp only [List.getElem?_cons_zero, List.getElem?_cons_succ] at h0 h1 h2 h3 h4
      obtain ⟨k, e0, _, wk⟩ := DataW.trod_int Tryz.underlying3 h0
      obtain ⟨lo, e1, _, o1, _⟩ := val_shape h1
      obtain ⟨hi, e2, _, o2, _⟩ := val_shape h2
      obtain ⟨ol, e3, _⟩ := DataW.trod_bool Tryz.underlying4 h3
      obtain ⟨oh, e4, _⟩ := DataW.trod_bool Tryz.underlying4 h4
      unfold cellsV at e1 e2
      cases e0; cases e1; cases e2; cases e3; cases e4
      exact ⟨⟨k, lo, hi, ol, oh⟩, rfl, ⟨lit_i64 wk, o1, o2⟩⟩
end

instance : Inhabited Tst := ⟨⟨0, zeroV, zeroV, false, false⟩⟩
section
variable {H : Type} {enc : TypeId × Value → H} {w : World} {base : Nat} {spare : Nat → Bool} {held : Bool}
set_option maxRecDepth 100000 in
theorem open_tests {r : Reach} {b0 : Nat} {v : Value} {d : DataW H} {p : List MemPlace} (hv : Value.okWide Tryz.prog w r b0 47 v) (h : DataW.Trod enc Tryz.prog w base spare held 47 v d p) :
    ∃ (t : Tsts) (A : Option Addr) (c : Nat), v = .agg #[.bool t.any, .bool t.no, .slice A t.l.length c] ∧ RM clT 13 w A t.l ∧ t.l.length ≤ c ∧ c ≤ maxLen ∧ ∀ u ∈ t.l, TOk u := by
  obtain ⟨cs, rfl, hsz⟩ := okWide_struct Tryz.underlying47 hv
  obtain ⟨fuel, hf⟩ := h
  obtain ⟨xs, n, _, _, hl, hxl, hg⟩ := DataW.trod_struct Tryz.underlying47 hf
  obtain ⟨L⟩ := cs
  rw [show Tryz.prog.cellsOf 47 = 3 by kernel_rfl] at hl
  simp only [Value.cells] at hl hg
  match L, hl with
  | [c0, c1, c2], _ =>
    match xs, hxl with
    | [y0, y1, y2], _ =>
      have h0 := hg 0 _ rfl
      have h1 := hg 1 _ rfl
      have h2 := hg 2 _ rfl
      simp only [List.getElem?_cons_zero, List.getElem?_cons_succ] at h0 h1 h2
      obtain ⟨any, e0, _⟩ := DataW.trod_bool Tryz.underlying4 h0
      obtain ⟨no, e1, _⟩ := DataW.trod_bool Tryz.underlying4 h1
      obtain ⟨A, c, K, e2, hM, hc, hcm, hok⟩ := open_rm clT_len (by decide) Tryz.underlying45 cells_tst (Ok := TOk) (fun _ _ _ h => tst_shape h) h2
      cases e0; cases e1; cases e2
      exact ⟨⟨any, no, K⟩, A, c, rfl, hM, hc, hcm, hok⟩
end
end Go.Proofs.YtkkeplmaphcblaaGreatDoor
