/- The walk of unary.cell's test. Printed by gentest.py. -/
import Derived.Test.YtkkeplmaphcblaaGreatDoorJ23
import Derived.Test.YtkkeplmaphcblaaGreatDoorJ1
namespace Go.Proofs.YtkkeplmaphcblaaGreatDoor
open Go.RowKit Go.Shelf

set_option maxHeartbeats 16000000 in
set_option maxRecDepth 100000 in
theorem test_any (b : Nat) (A : Option Addr) (c : Nat) (p : PS) (w : World) (h : PB w b A c p) (hok : ∀ t ∈ p.L, tkOK t) :
    Calls Tryz.prog 103 #[.agg #[.pointer (some ⟨b, 0, none⟩)]] w fun e w' => e = .returned (.agg (cellsTs p.test.1)) ∧ PB w' b A c p.test.2 ∧ Gr b w w' := by
  have H := Lib.hid h
  have hlw := h.blk.lt
  have KT := Lib.hid (fun (q : PS) (s : Bs) (W : World) (h : PB W b A c q) => take_any b A c q s W h)
  have KS := Lib.hid (fun (q : PS) (s : Bs) (W : World) (h : PB W b A c q) => is_any b A c q s W h)
  have KN := Lib.hid (fun (q : PS) (s : Bs) (W : World) (h : PB W b A c q) => need_any b A c q s W h)
  have KF := Lib.hid (fun (q : PS) (W : World) (h : PB W b A c q) => fail_any b A c q 5 W h)
  have KE := Lib.hid (fun (q : PS) (W : World) (h : PB W b A c q) => error_any b A c q W h)
  have KR := Lib.hid (fun (q : PS) (hL : q.L = p.L) (W : World) (h : PB W b A c q) => rank_any b A c q W h (by rw [hL]; exact hok))
  have KI := Lib.hid (fun (W : World) (h : PB W b A c p) => lit_any b A c p W h hok)
  obtain ⟨X, hX⟩ : ∃ X, p.test = X := ⟨_, rfl⟩
  have HT : Hid (∀ (k : Nat) (q : Bs), sgnT[k]? = some q → (∀ j r, j < k → sgnT[j]? = some r → p.isS r = false) → p.isS q = true → (⟨2 + (k : Int), p.adv.rank.1, zeroV, false, false⟩, p.adv.rank.2) = X) := Lib.hid (fun k q a b c => by rw [← hX, test_sg a b c])
  have HN := Lib.hid (fun h0 => (@test_no p h0).symm.trans hX)
  rw [hX]
  clear h hok hX
  have g0 : Gr b w (((w.alloc (.cells #[.pointer (some ⟨b, 0, none⟩)] 87)).alloc (.cells #[.int .i64 0, .int .i64 0, .int .i64 0, .int .i64 0, .string ⟨#[]⟩, .int .i64 0, .int .i64 0, .int .i64 0, .int .i64 0, .string ⟨#[]⟩, .int .i64 0, .bool false, .bool false] 82)).alloc (.cells #[.string ⟨#[60]⟩, .string ⟨#[60, 61]⟩, .string ⟨#[62]⟩, .string ⟨#[62, 61]⟩] 9)) := .of (by (repeat' (first | (with_reducible exact Below.refl _ _) | (with_reducible assumption) | (with_reducible refine balloc ?_ _) | (with_reducible refine Below.drew ?_) | (with_reducible refine bset ?_ ?_ _) | (with_reducible refine bstep ?_ (by with_reducible assumption)) | (with_reducible refine bturn ?_ (by with_reducible assumption) ?_) | go_size)))
  have h0 : PB (((w.alloc (.cells #[.pointer (some ⟨b, 0, none⟩)] 87)).alloc (.cells #[.int .i64 0, .int .i64 0, .int .i64 0, .int .i64 0, .string ⟨#[]⟩, .int .i64 0, .int .i64 0, .int .i64 0, .int .i64 0, .string ⟨#[]⟩, .int .i64 0, .bool false, .bool false] 82)).alloc (.cells #[.string ⟨#[60]⟩, .string ⟨#[60, 61]⟩, .string ⟨#[62]⟩, .string ⟨#[62, 61]⟩] 9)) b A c p := H.out.step (by (repeat' (first | (with_reducible exact Below.refl _ _) | (with_reducible assumption) | (with_reducible refine balloc ?_ _) | (with_reducible refine Below.drew ?_) | (with_reducible refine bset ?_ ?_ _) | (with_reducible refine bstep ?_ (by with_reducible assumption)) | (with_reducible refine bturn ?_ (by with_reducible assumption) ?_) | go_size)))
  have s0 : SS (((w.alloc (.cells #[.pointer (some ⟨b, 0, none⟩)] 87)).alloc (.cells #[.int .i64 0, .int .i64 0, .int .i64 0, .int .i64 0, .string ⟨#[]⟩, .int .i64 0, .int .i64 0, .int .i64 0, .int .i64 0, .string ⟨#[]⟩, .int .i64 0, .bool false, .bool false] 82)).alloc (.cells #[.string ⟨#[60]⟩, .string ⟨#[60, 61]⟩, .string ⟨#[62]⟩, .string ⟨#[62, 61]⟩] 9)) (w.heap.size + 1 + 1) sgnT := SS.of_blk (Blk.new' _ _ _ (by simp))
  have b0 : Blk (((w.alloc (.cells #[.pointer (some ⟨b, 0, none⟩)] 87)).alloc (.cells #[.int .i64 0, .int .i64 0, .int .i64 0, .int .i64 0, .string ⟨#[]⟩, .int .i64 0, .int .i64 0, .int .i64 0, .int .i64 0, .string ⟨#[]⟩, .int .i64 0, .bool false, .bool false] 82)).alloc (.cells #[.string ⟨#[60]⟩, .string ⟨#[60, 61]⟩, .string ⟨#[62]⟩, .string ⟨#[62, 61]⟩] 9)) w.heap.size 87 #[.pointer (some ⟨b, 0, none⟩)] := ((Blk.new _ _ _).alloc _).alloc _
  have r0 : Blk (((w.alloc (.cells #[.pointer (some ⟨b, 0, none⟩)] 87)).alloc (.cells #[.int .i64 0, .int .i64 0, .int .i64 0, .int .i64 0, .string ⟨#[]⟩, .int .i64 0, .int .i64 0, .int .i64 0, .int .i64 0, .string ⟨#[]⟩, .int .i64 0, .bool false, .bool false] 82)).alloc (.cells #[.string ⟨#[60]⟩, .string ⟨#[60, 61]⟩, .string ⟨#[62]⟩, .string ⟨#[62, 61]⟩] 9)) (w.heap.size + 1) 82 #[.int .i64 0, .int .i64 0, .int .i64 0, .int .i64 0, .string ⟨#[]⟩, .int .i64 0, .int .i64 0, .int .i64 0, .int .i64 0, .string ⟨#[]⟩, .int .i64 0, .bool false, .bool false] := (Blk.new' _ _ _ (by simp)).alloc _
  have S0 := Lib.hid (And.intro g0 (And.intro h0 (And.intro s0 (And.intro b0 r0))))
  clear g0 h0 s0 b0 r0
  go_enter Tryz.func103, Tryz.ntmps103
  go_upto_region 2 with fail
  go_loopw [12, 3, 4] (fun i _ _ wr => ∃ k : Nat, k ≤ 4 ∧ i = .int .i64 (k : Int) ∧ SS wr (w.heap.size + 1 + 1) sgnT ∧ Blk wr w.heap.size 87 #[.pointer (some ⟨b, 0, none⟩)] ∧ Blk wr (w.heap.size + 1) 82 #[.int .i64 0, .int .i64 0, .int .i64 0, .int .i64 0, .string ⟨#[]⟩, .int .i64 0, .int .i64 0, .int .i64 0, .int .i64 0, .string ⟨#[]⟩, .int .i64 0, .bool false, .bool false] ∧ PB wr b A c p ∧ Gr b w wr ∧ Hid (∀ j r, j < k → sgnT[j]? = some r → p.isS r = false)) (fun i _ _ _ => 4 - (intOf i).toNat)
  case atStart => exact ⟨0, by omega, rfl, S0.out.2.2.1, S0.out.2.2.2.1, S0.out.2.2.2.2, S0.out.2.1, S0.out.1, Lib.hid (fun j r h => absurd h (by omega))⟩
  case round =>
    obtain ⟨k, hk, rfl, hS, kb, kr, hp, g, HQ⟩ := hrel
    have hz := g.size
    clear S0
    by_cases hlt : k < 4
    · obtain ⟨q, hq⟩ : ∃ q, sgnT[k]? = some q := ⟨sgnT[k]'hlt, List.getElem?_eq_getElem hlt⟩
      have hc := hS k q hq
      have HS2 := Lib.hid hS
      have HP := Lib.hid hp
      have HB := Lib.hid kb
      have KTq := Lib.hid (KT.out p q)
      cases hM : p.isS q with
      | true =>
        have hres := Lib.hid (HT.out k q hq HQ.out hM)
        rw [hM, take_yes hM] at KTq
        clear hS hq hM hp
        have hlu := kb.lt; have hllu := lts hlu; have qu0 := kb.cell 0; simp at qu0; have zu0 := kb.frozen 0; have Hkb := Lib.hid kb; clear kb
        go_wp2_with fail
        refine (KTq.out _ HP.out).mono ?_
        rintro e w2 ⟨rfl, h2, g2⟩
        have kb2 := HB.out.gr g2 (by omega)
        have kr2 := kr.gr g2 (by omega)
        clear qu0 zu0 hlu hllu kr hc
        have hlu := kb2.lt; have hllu := lts hlu; have qu0 := kb2.cell 0; simp at qu0; have zu0 := kb2.frozen 0; have Hkb2 := Lib.hid kb2; clear kb2
        go_wp2_with fail
        refine (KR.out p.adv rfl _ h2).mono ?_
        rintro e w3 ⟨rfl, h3, g3⟩
        have kr3 := kr2.gr g3 (by have := g2.size; omega)
        dsimp only [cellsV]
        clear qu0 zu0 hlu hllu kr2
        go_wp2_with (first | (refine wpList_store_blk kr3 rfl _ _ _ (by rfl) _ (by rfl) (by rfl) (by (repeat (first | (with_reducible exact kr3) | (with_reducible refine Blk.alloc ?_ _) | (with_reducible refine Blk.drew ?_) | (with_reducible refine Blk.far ?_ (by first | (simp; done) | (simp; omega)) _) | (with_reducible refine Blk.turn ?_ (by with_reducible assumption) (by omega))))) (by rfl) (by kernel_rfl) (by simp [Value.oneCell']) ?_; intro wt kr3n ht))
        refine ret_blk rfl kr3n rfl Tryz.underlying82 rfl (by kernel_rfl) rfl ?_
        have hr := hres.out
        subst hr
        exact ⟨rfl, H.out.turnF (by rw [rank_L]; rfl) h3 ht (by omega), Gr.turnFar ((g.trans g2).trans g3) ht (by omega)⟩
      | false =>
        rw [hM, take_no hM] at KTq
        have HQ2 : Hid (∀ j r, j < k + 1 → sgnT[j]? = some r → p.isS r = false) := Lib.hid (fun j r hj hr => by
          by_cases he : j = k
          · subst he
            rw [hq] at hr
            injection hr with hr
            rw [← hr]
            exact hM
          · exact HQ.out j r (by omega) hr)
        clear hS hq hM hp
        have hlu := kb.lt; have hllu := lts hlu; have qu0 := kb.cell 0; simp at qu0; have zu0 := kb.frozen 0; have Hkb := Lib.hid kb; clear kb
        go_wp2_with fail
        refine (KTq.out _ HP.out).mono ?_
        rintro e w2 ⟨rfl, h2, g2⟩
        have kb2 := HB.out.gr g2 (by omega)
        have kr2 := kr.gr g2 (by omega)
        have hS2 := HS2.out.gr g2 (by omega)
        clear qu0 zu0 hlu hllu kr hc
        go_wp2_with fail
        go_roundw
        case rel => exact ⟨k + 1, by omega, by go_num, hS2, kb2, kr2, h2, g.trans g2, HQ2⟩
        case measure => simp [intOf]; omega
    · obtain rfl : k = 4 := by omega
      have HN2 := Lib.hid (HN.out HQ.out)
      have HB := Lib.hid kb
      have HR := Lib.hid kr
      have HP := Lib.hid hp
      have HG := Lib.hid g
      obtain ⟨a, ha⟩ : ∃ a, p.isS [40] = a := ⟨_, rfl⟩
      obtain ⟨d, hd⟩ : ∃ d, p.isS [93] = d := ⟨_, rfl⟩
      obtain ⟨l, hl⟩ : ∃ l, p.isS [91] = l := ⟨_, rfl⟩
      have KA := Lib.hid (KS.out p [40])
      have KD := Lib.hid (KS.out p [93])
      rw [ha] at KA HN2
      rw [hd] at KD HN2
      rw [hl] at HN2
      have TL : Hid (∀ W, PB W b A c p → Calls Tryz.prog 59 #[.pointer (some ⟨b, 0, none⟩), .string (bs [91])] W fun e w' => e = .returned (.bool l) ∧ PB w' b A c (if l = true then p.adv else p) ∧ Gr b W w') := Lib.hid (fun W h => by rw [← hl]; exact KT.out p [91] W h)
      have TA : Hid (∀ W, PB W b A c p → Calls Tryz.prog 59 #[.pointer (some ⟨b, 0, none⟩), .string (bs [40])] W fun e w' => e = .returned (.bool a) ∧ PB w' b A c (if a = true then p.adv else p) ∧ Gr b W w') := Lib.hid (fun W h => by rw [← ha]; exact KT.out p [40] W h)
      have TD : Hid (∀ W, PB W b A c p → Calls Tryz.prog 59 #[.pointer (some ⟨b, 0, none⟩), .string (bs [93])] W fun e w' => e = .returned (.bool d) ∧ PB w' b A c (if d = true then p.adv else p) ∧ Gr b W w') := Lib.hid (fun W h => by rw [← hd]; exact KT.out p [93] W h)
      clear HN HT hS HQ hlt ha hd hl hp g
      go_upto_region 7 with fail
      go_cut [5] (fun x wx => x = .bool (a || d) ∧ Blk wx w.heap.size 87 #[.pointer (some ⟨b, 0, none⟩)] ∧ Blk wx (w.heap.size + 1) 82 #[.int .i64 0, .int .i64 0, .int .i64 0, .int .i64 0, .string ⟨#[]⟩, .int .i64 0, .int .i64 0, .int .i64 0, .int .i64 0, .string ⟨#[]⟩, .int .i64 0, .bool false, .bool false] ∧ PB wx b A c p ∧ Gr b w wx)
      case first =>
        have hlu := kb.lt; have hllu := lts hlu; have qu0 := kb.cell 0; simp at qu0; have zu0 := kb.frozen 0; have Hkb := Lib.hid kb; clear kb
        cases a with
        | true =>
          go_wp2_with fail
          refine (KA.out _ HP.out).mono ?_
          rintro e w2 ⟨rfl, hb2⟩
          go_wp2_with fail
          go_meet
          case rel => exact ⟨rfl, HB.out.step hb2, HR.out.step hb2, HP.out.step hb2, HG.out.bstep hb2⟩
        | false =>
          go_wp2_with fail
          refine (KA.out _ HP.out).mono ?_
          rintro e w2 ⟨rfl, hb2⟩
          have kb2 := HB.out.step hb2
          clear qu0 zu0 hlu hllu
          have hlu := kb2.lt; have hllu := lts hlu; have qu0 := kb2.cell 0; simp at qu0; have zu0 := kb2.frozen 0; have Hkb2 := Lib.hid kb2; clear kb2
          go_wp2_with fail
          refine (KD.out _ (HP.out.step hb2)).mono ?_
          rintro e w3 ⟨rfl, hb3⟩
          go_wp2_with fail
          go_meet
          case rel => exact ⟨rfl, (HB.out.step hb2).step hb3, (HR.out.step hb2).step hb3, (HP.out.step hb2).step hb3, (HG.out.bstep hb2).bstep hb3⟩
      case rest =>
        clear HB HR HP HG KA KD kb kr
        obtain ⟨rfl, kb, kr, hp, g⟩ := hcut
        have HB := Lib.hid kb
        have HR := Lib.hid kr
        have HP := Lib.hid hp
        have HG := Lib.hid g
        have hz := g.size
        clear hp g
        go_upto_region 8 with fail
        go_cut [50] (fun x wx => x = .bool (!l && (!a && !d)) ∧ Blk wx w.heap.size 87 #[.pointer (some ⟨b, 0, none⟩)] ∧ Blk wx (w.heap.size + 1) 82 #[.int .i64 0, .int .i64 0, .int .i64 0, .int .i64 0, .string ⟨#[]⟩, .int .i64 0, .int .i64 0, .int .i64 0, .int .i64 0, .string ⟨#[]⟩, .int .i64 0, .bool false, .bool false] ∧ PB wx b A c (if l = true ∨ a = true ∨ d = true then p.adv else p) ∧ Gr b w wx)
        case first =>
          have hlu := kb.lt; have hllu := lts hlu; have qu0 := kb.cell 0; simp at qu0; have zu0 := kb.frozen 0; have Hkb := Lib.hid kb; clear kb
          cases l with
          | true =>
            go_wp2_with fail
            refine (TL.out _ HP.out).mono ?_
            rintro e w2 ⟨rfl, h2, g2⟩
            go_wp2_with fail
            go_meet
            case rel => exact ⟨rfl, HB.out.gr g2 (by omega), HR.out.gr g2 (by omega), h2, HG.out.trans g2⟩
          | false =>
            go_wp2_with fail
            refine (TL.out _ HP.out).mono ?_
            rintro e w2 ⟨rfl, h2, g2⟩
            have kb2 := HB.out.gr g2 (by omega)
            have kr2 := HR.out.gr g2 (by omega)
            have g02 := HG.out.trans g2
            have hz2 := g2.size
            have HB2 := Lib.hid kb2
            have h2' : PB w2 b A c p := h2
            clear qu0 zu0 hlu hllu h2
            have hlu := kb2.lt; have hllu := lts hlu; have qu0 := kb2.cell 0; simp at qu0; have zu0 := kb2.frozen 0; have Hkb2 := Lib.hid kb2; clear kb2
            cases a with
            | true =>
              go_wp2_with fail
              refine (TA.out _ h2').mono ?_
              rintro e w3 ⟨rfl, h3, g3⟩
              go_wp2_with fail
              go_meet
              case rel => exact ⟨rfl, HB2.out.gr g3 (by omega), kr2.gr g3 (by omega), h3, g02.trans g3⟩
            | false =>
              go_wp2_with fail
              refine (TA.out _ h2').mono ?_
              rintro e w3 ⟨rfl, h3, g3⟩
              have kb3 := HB2.out.gr g3 (by omega)
              have kr3 := kr2.gr g3 (by omega)
              have g03 := g02.trans g3
              have hz3 := g3.size
              have HB3 := Lib.hid kb3
              have h3' : PB w3 b A c p := h3
              clear qu0 zu0 hlu hllu h3
              have hlu := kb3.lt; have hllu := lts hlu; have qu0 := kb3.cell 0; simp at qu0; have zu0 := kb3.frozen 0; have Hkb3 := Lib.hid kb3; clear kb3
              go_wp2_with fail
              refine (TD.out _ h3').mono ?_
              rintro e w4 ⟨rfl, h4, g4⟩
              go_wp2_with fail
              go_meet
              case rel => exact ⟨by cases d <;> rfl, HB3.out.gr g4 (by omega), kr3.gr g4 (by omega), by cases d <;> exact h4, g03.trans g4⟩
        case rest =>
          clear HB HR HP HG TL TA TD kb kr hz
          obtain ⟨rfl, kb, kr, hp, g⟩ := hcut
          have HB := Lib.hid kb
          have hz := g.size
          by_cases hbr : l = true ∨ a = true ∨ d = true
          · have hbv : (!l && (!a && !d)) = false := by
              rcases hbr with h | h | h <;> rw [h] <;> simp
            rw [if_pos hbr] at hp HN2
            rw [hbv]
            clear hbr hbv KI
            have hx := HN2.out
            have K1 := Lib.hid (KR.out p.adv rfl)
            have l1 : p.adv.rank.2.L = p.L := by rw [rank_L]; rfl
            obtain ⟨⟨lk, ln, ls, lt, lm⟩, hLO⟩ : ∃ v, p.adv.rank.1 = v := ⟨_, rfl⟩
            obtain ⟨Q1, hQ1⟩ : ∃ q, p.adv.rank.2 = q := ⟨_, rfl⟩
            rw [hLO, hQ1] at K1 hx
            rw [hQ1] at l1
            have K2 := Lib.hid (KN.out Q1 [46, 46])
            obtain ⟨Q2, hQ2⟩ : ∃ q, Q1.need [46, 46] = q := ⟨_, rfl⟩
            have l2 : Q2.L = p.L := by rw [← hQ2, need_L, l1]
            rw [hQ2] at K2 hx
            have K3 := Lib.hid (KR.out Q2 l2)
            obtain ⟨⟨xk, xn, xs, xt, xm⟩, hHI⟩ : ∃ v, Q2.rank.1 = v := ⟨_, rfl⟩
            obtain ⟨Q3, hQ3⟩ : ∃ q, Q2.rank.2 = q := ⟨_, rfl⟩
            have l3 : Q3.L = p.L := by rw [← hQ3, rank_L, l2]
            rw [hHI, hQ3] at K3 hx
            obtain ⟨R, hR⟩ : ∃ q, (if Q3.e = 0 ∧ (⟨xk, xn, xs, xt, xm⟩ : Vl).k ≠ (⟨lk, ln, ls, lt, lm⟩ : Vl).k then Q2.fail 5 else Q3) = q := ⟨_, rfl⟩
            rw [hR] at hx
            have HX := Lib.hid hx
            have HRR : Hid ((if Q3.e = 0 ∧ xk ≠ lk then Q2.fail 5 else Q3) = R) := Lib.hid hR
            have HL := Lib.hid (And.intro l1 (And.intro l2 l3))
            obtain ⟨lq, hlq⟩ : ∃ q, bs lt = q := ⟨_, rfl⟩
            obtain ⟨xq, hhq⟩ : ∃ q, bs xt = q := ⟨_, rfl⟩
            have hcl : cellsV ⟨lk, ln, ls, lt, lm⟩ = #[.int .i64 lk, .int .i64 ln, .int .i64 ls, .string lq, .int .i64 lm] := cellsV_eq hlq
            have hch : cellsV ⟨xk, xn, xs, xt, xm⟩ = #[.int .i64 xk, .int .i64 xn, .int .i64 xs, .string xq, .int .i64 xm] := cellsV_eq hhq
            rw [hcl] at K1
            rw [hch] at K3
            have HQ := Lib.hid (And.intro hlq hhq)
            clear hx hLO hQ1 hQ2 hHI hQ3 hR l1 l2 l3 HN2 hlq hhq hcl hch
            have hlu := kb.lt; have hllu := lts hlu; have qu0 := kb.cell 0; simp at qu0; have zu0 := kb.frozen 0; have Hkb := Lib.hid kb; clear kb
            go_wp2_with fail
            refine (K1.out _ hp).mono ?_
            rintro e w2 ⟨rfl, h2, g2⟩
            have kb2 := HB.out.gr g2 (by omega)
            have kr2 := kr.gr g2 (by omega)
            have g02 := g.trans g2
            have hz2 := g2.size
            have HP2 := Lib.hid h2
            have hw2 : w.heap.size + 1 < w2.heap.size := kr2.lt
            clear qu0 zu0 hlu hllu kr hp g h2 HB
            have k6 : Blk (w2.alloc (.cells #[.int .i64 0, .int .i64 0, .int .i64 0, .int .i64 0, .string ⟨#[]⟩, .int .i64 0, .int .i64 0, .int .i64 0, .int .i64 0, .string ⟨#[]⟩, .int .i64 0, .bool false, .bool false] 82)) w2.heap.size 82 #[.int .i64 0, .int .i64 0, .int .i64 0, .int .i64 0, .string ⟨#[]⟩, .int .i64 0, .int .i64 0, .int .i64 0, .int .i64 0, .string ⟨#[]⟩, .int .i64 0, .bool false, .bool false] := Blk.new _ _ _
            go_upto_region 11 with (refine wpList_store_blk k6 rfl _ _ _ (by rfl) _ (by rfl) (by rfl) (by (repeat (first | (with_reducible exact k6) | (with_reducible refine Blk.alloc ?_ _) | (with_reducible refine Blk.drew ?_) | (with_reducible refine Blk.far ?_ (by first | (simp; done) | (simp; omega)) _) | (with_reducible refine Blk.turn ?_ (by with_reducible assumption) (by omega))))) (by rfl) (by kernel_rfl) (by simp [Value.oneCell']) ?_; intro wt k6n ht)
            have hb6 : Below w2.heap.size w2 wt := bturn (balloc (Below.refl _ _) _) ht (Nat.le_refl _)
            have kb3 := kb2.step hb6
            have kr3 := kr2.step hb6
            have h3 := HP2.out.step hb6
            have g03 := g02.bstep hb6
            have K6 := Lib.hid k6n
            have hl6 := k6n.lt
            have hz3 : w2.heap.size < wt.heap.size := hl6
            have HB3 := Lib.hid kb3
            clear HP2 kb2 kr2 g02 k6 k6n
            have hlu := kb3.lt; have hllu := lts hlu; have qu0 := kb3.cell 0; simp at qu0; have zu0 := kb3.frozen 0; have Hkb3 := Lib.hid kb3; clear kb3
            go_wp2_with fail
            refine (K2.out _ h3).mono ?_
            rintro e w4 ⟨rfl, h4, g4⟩
            have kb4 := HB3.out.gr g4 (by omega)
            have kr4 := kr3.gr g4 (by omega)
            have K64 := Lib.hid (K6.out.gr g4 (by omega))
            have g04 := g03.trans g4
            have hz4 := g4.size
            have hp4 := h4.blk
            have HP4 := Lib.hid h4
            have HB4 := Lib.hid kb4
            clear qu0 zu0 hlu hllu kr3 g03 h4 h3 HB3 K6
            have hlu := kb4.lt; have hllu := lts hlu; have qu0 := kb4.cell 0; simp at qu0; have zu0 := kb4.frozen 0; have Hkb4 := Lib.hid kb4; clear kb4
            have k7 : Blk (w4.alloc (.cells #[.slice none 0 0, .int .i64 0, .int .i64 0, .int .i64 0, .int .i64 0, .int .i64 0] 69)) w4.heap.size 69 #[.slice none 0 0, .int .i64 0, .int .i64 0, .int .i64 0, .int .i64 0, .int .i64 0] := Blk.new _ _ _
            go_upto_region 13 with (first | (refine wpList_load_blk hp4 rfl _ _ (by rfl) (by rfl) (by (repeat (first | (with_reducible exact hp4) | (with_reducible refine Blk.alloc ?_ _) | (with_reducible refine Blk.drew ?_) | (with_reducible refine Blk.far ?_ (by first | (simp; done) | (simp; omega)) _) | (with_reducible refine Blk.turn ?_ (by with_reducible assumption) (by omega))))) _ Tryz.underlying69 rfl (by kernel_rfl) ?_) | (refine wpList_store_blk k7 rfl _ _ _ (by rfl) _ (by rfl) (by rfl) (by (repeat (first | (with_reducible exact k7) | (with_reducible refine Blk.alloc ?_ _) | (with_reducible refine Blk.drew ?_) | (with_reducible refine Blk.far ?_ (by first | (simp; done) | (simp; omega)) _) | (with_reducible refine Blk.turn ?_ (by with_reducible assumption) (by omega))))) (by rfl) (by kernel_rfl) (by simp [Value.oneCell']) ?_; intro wt k7n ht))
            have hb7 : Below w4.heap.size w4 wt := bturn (balloc (Below.refl _ _) _) ht (Nat.le_refl _)
            have kb5 := HB4.out.step hb7
            have kr5 := kr4.step hb7
            have h5 := HP4.out.step hb7
            have g05 := g04.bstep hb7
            have K65 := Lib.hid (K64.out.step hb7)
            have hz5 : w4.heap.size < wt.heap.size := k7n.lt
            have HB5 := Lib.hid kb5
            clear qu0 zu0 hlu hllu HB4 kr4 g04 hp4 k7 K64
            have hlu := kb5.lt; have hllu := lts hlu; have qu0 := kb5.cell 0; simp at qu0; have zu0 := kb5.frozen 0; have Hkb5 := Lib.hid kb5; clear kb5
            go_wp2_with fail
            refine (K3.out _ h5).mono ?_
            rintro e w6 ⟨rfl, h6, g6⟩
            have kb6 := HB5.out.gr g6 (by omega)
            have kr6 := kr5.gr g6 (by omega)
            have k66 := K65.out.gr g6 (by omega)
            have K66 := Lib.hid k66
            have k76 := k7n.gr g6 (by omega)
            have g06 := g05.trans g6
            have hz6 := g6.size
            clear qu0 zu0 hlu hllu kr5 g05 h5 HB5 K65 k7n
            have hlx := k66.lt; have hllx := lts hlx; have qx0 := k66.cell 0; have qx1 := k66.cell 1; have qx2 := k66.cell 2; have qx3 := k66.cell 3; have qx4 := k66.cell 4; have qx5 := k66.cell 5; have qx6 := k66.cell 6; have qx7 := k66.cell 7; have qx8 := k66.cell 8; have qx9 := k66.cell 9; have qx10 := k66.cell 10; have qx11 := k66.cell 11; have qx12 := k66.cell 12; simp at qx0 qx1 qx2 qx3 qx4 qx5 qx6 qx7 qx8 qx9 qx10 qx11 qx12; have zx0 := k66.frozen 0; have zx1 := k66.frozen 1; have zx2 := k66.frozen 2; have zx3 := k66.frozen 3; have zx4 := k66.frozen 4; have zx5 := k66.frozen 5; have zx6 := k66.frozen 6; have zx7 := k66.frozen 7; have zx8 := k66.frozen 8; have zx9 := k66.frozen 9; have zx10 := k66.frozen 10; have zx11 := k66.frozen 11; have zx12 := k66.frozen 12; have Hk66 := Lib.hid k66; clear k66
            go_upto_region 14 with fail
            have k8 : Blk (((((w6.setCell ⟨w2.heap.size, 6, none⟩ (.int .i64 xk)).setCell ⟨w2.heap.size, 7, none⟩ (.int .i64 xn)).setCell ⟨w2.heap.size, 8, none⟩ (.int .i64 xs)).setCell ⟨w2.heap.size, 9, none⟩ (.string xq)).setCell ⟨w2.heap.size, 10, none⟩ (.int .i64 xm)) w2.heap.size 82 #[.int .i64 6, .int .i64 lk, .int .i64 ln, .int .i64 ls, .string lq, .int .i64 lm, .int .i64 xk, .int .i64 xn, .int .i64 xs, .string xq, .int .i64 xm, .bool (a || d), .bool false] := by
              have := ((((K66.out.set_ 6 (.int .i64 xk)).set_ 7 (.int .i64 xn)).set_ 8 (.int .i64 xs)).set_ 9 (.string xq)).set_ 10 (.int .i64 xm)
              simpa using this
            have t8 : Turned w6 (((((w6.setCell ⟨w2.heap.size, 6, none⟩ (.int .i64 xk)).setCell ⟨w2.heap.size, 7, none⟩ (.int .i64 xn)).setCell ⟨w2.heap.size, 8, none⟩ (.int .i64 xs)).setCell ⟨w2.heap.size, 9, none⟩ (.string xq)).setCell ⟨w2.heap.size, 10, none⟩ (.int .i64 xm)) w2.heap.size := ((((Turned.setCell _ _ 6 _).trans (Turned.setCell _ _ 7 _)).trans (Turned.setCell _ _ 8 _)).trans (Turned.setCell _ _ 9 _)).trans (Turned.setCell _ _ 10 _)
            generalize (((((w6.setCell ⟨w2.heap.size, 6, none⟩ (.int .i64 xk)).setCell ⟨w2.heap.size, 7, none⟩ (.int .i64 xn)).setCell ⟨w2.heap.size, 8, none⟩ (.int .i64 xs)).setCell ⟨w2.heap.size, 9, none⟩ (.string xq)).setCell ⟨w2.heap.size, 10, none⟩ (.int .i64 xm)) = w8 at *
            have kb8 := kb6.turn t8 (by omega)
            have kr8 := kr6.turn t8 (by omega)
            have k78 := k76.turn t8 (by omega)
            have h8 : PB w8 b A c Q3 := H.out.turnF HL.out.2.2.symm h6 t8 (by omega)
            have g8 : Gr b w w8 := Gr.turnFar g06 t8 (by omega)
            have hz8 := t8.size
            have K8 := Lib.hid k8
            have HB8 := Lib.hid kb8
            clear qx0 qx1 qx2 qx3 qx4 qx5 qx6 qx7 qx8 qx9 qx10 qx11 qx12 zx0 zx1 zx2 zx3 zx4 zx5 zx6 zx7 zx8 zx9 zx10 zx11 zx12 hlx hllx kb6 kr6 k76 h6 g06 K66 t8 k8 Hk66
            have hlu := kb8.lt; have hllu := lts hlu; have qu0 := kb8.cell 0; simp at qu0; have zu0 := kb8.frozen 0; have Hkb8 := Lib.hid kb8; clear kb8
            go_wp2_with fail
            refine (KE.out Q3 _ h8).mono ?_
            rintro e w9 ⟨rfl, hb9⟩
            have kb9 := Lib.hid (HB8.out.step hb9)
            have kr9 := Lib.hid (kr8.step hb9)
            have k79 := Lib.hid (k78.step hb9)
            have h9 := Lib.hid (h8.step hb9)
            have g9 := Lib.hid (g8.bstep hb9)
            have k9 := Lib.hid (K8.out.step hb9)
            have hz9 := hb9.size
            clear qu0 zu0 hlu hllu kr8 k78 h8 g8 K8 HB8 Hkb8
            go_upto_region 15 with fail
            go_cut [84] (fun x wx => x = .bool (Q3.e == 0 && xk != lk) ∧ wx = w9)
            case first =>
              have k9' := k9.out
              have hlx := k9'.lt; have hllx := lts hlx; have qx0 := k9'.cell 0; have qx1 := k9'.cell 1; have qx2 := k9'.cell 2; have qx3 := k9'.cell 3; have qx4 := k9'.cell 4; have qx5 := k9'.cell 5; have qx6 := k9'.cell 6; have qx7 := k9'.cell 7; have qx8 := k9'.cell 8; have qx9 := k9'.cell 9; have qx10 := k9'.cell 10; have qx11 := k9'.cell 11; have qx12 := k9'.cell 12; simp at qx0 qx1 qx2 qx3 qx4 qx5 qx6 qx7 qx8 qx9 qx10 qx11 qx12; have zx0 := k9'.frozen 0; have zx1 := k9'.frozen 1; have zx2 := k9'.frozen 2; have zx3 := k9'.frozen 3; have zx4 := k9'.frozen 4; have zx5 := k9'.frozen 5; have zx6 := k9'.frozen 6; have zx7 := k9'.frozen 7; have zx8 := k9'.frozen 8; have zx9 := k9'.frozen 9; have zx10 := k9'.frozen 10; have zx11 := k9'.frozen 11; have zx12 := k9'.frozen 12; have Hk9' := Lib.hid k9'; clear k9'
              by_cases he : Q3.e = 0
              · by_cases hkk : xk = lk
                · have hkb : (xk != lk) = false := by simpa using hkk
                  go_wp2_with fail
                  go_meet
                  case rel => exact ⟨by rw [hkb, Bool.and_false], rfl⟩
                · have hkb : (xk != lk) = true := by simpa using hkk
                  go_wp2_with fail
                  go_meet
                  case rel => exact ⟨by rw [hkb, he]; rfl, rfl⟩
              · have heb : (Q3.e == 0) = false := by simpa using he
                go_wp2_with fail
                go_meet
                case rel => exact ⟨by rw [heb, Bool.false_and], rfl⟩
            case rest =>
              obtain ⟨rfl, rfl⟩ := hcut
              go_upto_if 84 with fail
              go_cut [] (fun wx => Blk wx w.heap.size 87 #[.pointer (some ⟨b, 0, none⟩)] ∧ Blk wx (w.heap.size + 1) 82 #[.int .i64 0, .int .i64 0, .int .i64 0, .int .i64 0, .string ⟨#[]⟩, .int .i64 0, .int .i64 0, .int .i64 0, .int .i64 0, .string ⟨#[]⟩, .int .i64 0, .bool false, .bool false] ∧ Blk wx w2.heap.size 82 #[.int .i64 6, .int .i64 lk, .int .i64 ln, .int .i64 ls, .string lq, .int .i64 lm, .int .i64 xk, .int .i64 xn, .int .i64 xs, .string xq, .int .i64 xm, .bool (a || d), .bool false] ∧ PB wx b A c R ∧ Gr b w wx)
              case first =>
                by_cases hc : Q3.e = 0 ∧ xk ≠ lk
                · have hcb : (Q3.e == 0 && xk != lk) = true := by
                    have h1 : (xk != lk) = true := by simpa using hc.2
                    rw [h1, hc.1]
                    rfl
                  rw [hcb]
                  have hrr : Q2.fail 5 = R := by rw [← HRR.out, if_pos hc]
                  have HRF := Lib.hid hrr
                  clear hc hcb hrr
                  have kb10 := kb9.out
                  have k710 := k79.out
                  have hpb := h9.out.blk
                  have hlu := kb10.lt; have hllu := lts hlu; have qu0 := kb10.cell 0; simp at qu0; have zu0 := kb10.frozen 0; have Hkb10 := Lib.hid kb10; clear kb10
                  go_upto_region 17 with (first | (refine wpList_load_blk k710 rfl _ _ (by rfl) (by rfl) (by (repeat (first | (with_reducible exact k710) | (with_reducible refine Blk.alloc ?_ _) | (with_reducible refine Blk.drew ?_) | (with_reducible refine Blk.far ?_ (by first | (simp; done) | (simp; omega)) _) | (with_reducible refine Blk.turn ?_ (by with_reducible assumption) (by omega))))) _ Tryz.underlying69 rfl (by kernel_rfl) ?_) | (refine wpList_store_blk hpb rfl _ _ _ (by rfl) _ (by rfl) (by rfl) (by (repeat (first | (with_reducible exact hpb) | (with_reducible refine Blk.alloc ?_ _) | (with_reducible refine Blk.drew ?_) | (with_reducible refine Blk.far ?_ (by first | (simp; done) | (simp; omega)) _) | (with_reducible refine Blk.turn ?_ (by with_reducible assumption) (by omega))))) (by rfl) (by kernel_rfl) (by simp [Value.oneCell']) ?_; intro wt hpbn ht))
                  have h10 : PB wt b A c Q2 := ⟨hpbn, by rw [HL.out.2.1, ← HL.out.2.2]; exact h9.out.tm.gr ((Gr.refl b _).turn ht) h9.out.nb, HP4.out.nb, HP4.out.le, HP4.out.big⟩
                  have kb11 := kb9.out.turn ht (by omega)
                  have kr11 := kr9.out.turn ht (by omega)
                  have k611 := k9.out.turn ht (by omega)
                  have g11 : Gr b w wt := g9.out.turn ht
                  have hz11 := ht.size
                  have HB11 := Lib.hid kb11
                  have hw11 : w2.heap.size < wt.heap.size := k611.lt
                  clear qu0 zu0 hlu hllu
                  have hlu := kb11.lt; have hllu := lts hlu; have qu0 := kb11.cell 0; simp at qu0; have zu0 := kb11.frozen 0; have Hkb11 := Lib.hid kb11; clear kb11
                  go_wp2_with fail
                  refine (KF.out Q2 _ h10).mono ?_
                  rintro e w12 ⟨rfl, h12, g12⟩
                  go_wp2_with fail
                  go_meet
                  case rel => exact ⟨HB11.out.gr g12 (by omega), kr11.gr g12 (by omega), k611.gr g12 (by omega), by rw [← HRF.out]; exact h12, g11.trans g12⟩
                · have hcb : (Q3.e == 0 && xk != lk) = false := by
                    by_cases h1 : Q3.e = 0
                    · have h2 : xk = lk := Classical.byContradiction fun h => hc ⟨h1, h⟩
                      rw [h2]
                      simp
                    · have : (Q3.e == 0) = false := by simpa using h1
                      rw [this, Bool.false_and]
                  rw [hcb]
                  have hrr : Q3 = R := by rw [← HRR.out, if_neg hc]
                  have HRF := Lib.hid hrr
                  clear hc hcb hrr
                  go_wp2_with fail
                  go_meet
                  case rel => exact ⟨kb9.out, kr9.out, k9.out, by rw [← HRF.out]; exact h9.out, g9.out⟩
              case rest =>
                have HRL : Hid (p.L = R.L) := Lib.hid (by
                  rw [← HRR.out]
                  split
                  · rw [fail_L, HL.out.2.1]
                  · rw [HL.out.2.2])
                clear kb9 kr9 k79 h9 g9 k9 HP4 HRR HL K1 K2 K3 KR KE
                obtain ⟨kb, kr, k6, hp, g⟩ := hcut
                have hz := g.size
                have hw6 : w2.heap.size < wc.heap.size := k6.lt
                obtain ⟨mm, hm⟩ : ∃ x, R.isS [41] = x := ⟨_, rfl⟩
                obtain ⟨nn, hn⟩ : ∃ x, R.isS [91] = x := ⟨_, rfl⟩
                obtain ⟨uu, hu⟩ : ∃ x, R.isS [93] = x := ⟨_, rfl⟩
                have S1 := Lib.hid (KS.out R [41])
                have S2 := Lib.hid (KS.out R [91])
                have hx := HX.out
                rw [hm] at S1 hx
                rw [hn] at S2 hx
                have hcl : R.close = if uu = true ∨ mm = true ∨ nn = true then R.adv else R.fail 5 := by unfold PS.close; rw [hu, hm, hn]
                rw [hcl] at hx
                have HX2 := Lib.hid hx
                have T1 : Hid (∀ W, PB W b A c R → Calls Tryz.prog 59 #[.pointer (some ⟨b, 0, none⟩), .string (bs [93])] W fun e w' => e = .returned (.bool uu) ∧ PB w' b A c (if uu = true then R.adv else R) ∧ Gr b W w') := Lib.hid (fun W h => by rw [← hu]; exact KT.out R [93] W h)
                have T2 : Hid (∀ W, PB W b A c R → Calls Tryz.prog 59 #[.pointer (some ⟨b, 0, none⟩), .string (bs [41])] W fun e w' => e = .returned (.bool mm) ∧ PB w' b A c (if mm = true then R.adv else R) ∧ Gr b W w') := Lib.hid (fun W h => by rw [← hm]; exact KT.out R [41] W h)
                have T3 : Hid (∀ W, PB W b A c R → Calls Tryz.prog 59 #[.pointer (some ⟨b, 0, none⟩), .string (bs [91])] W fun e w' => e = .returned (.bool nn) ∧ PB w' b A c (if nn = true then R.adv else R) ∧ Gr b W w') := Lib.hid (fun W h => by rw [← hn]; exact KT.out R [91] W h)
                clear hx hm hn hu hcl KS KT HX
                have HB := Lib.hid kb
                have HR2 := Lib.hid kr
                have H6 := Lib.hid k6
                have HP := Lib.hid hp
                have HG := Lib.hid g
                clear kr hp g
                go_upto_region 18 with fail
                go_cut [] (fun wx => Blk wx w.heap.size 87 #[.pointer (some ⟨b, 0, none⟩)] ∧ Blk wx (w.heap.size + 1) 82 #[.int .i64 0, .int .i64 0, .int .i64 0, .int .i64 0, .string ⟨#[]⟩, .int .i64 0, .int .i64 0, .int .i64 0, .int .i64 0, .string ⟨#[]⟩, .int .i64 0, .bool false, .bool false] ∧ Blk wx w2.heap.size 82 #[.int .i64 6, .int .i64 lk, .int .i64 ln, .int .i64 ls, .string lq, .int .i64 lm, .int .i64 xk, .int .i64 xn, .int .i64 xs, .string xq, .int .i64 xm, .bool (a || d), .bool (mm || nn)] ∧ PB wx b A c R ∧ Gr b w wx)
                case first =>
                  have hlu := kb.lt; have hllu := lts hlu; have qu0 := kb.cell 0; simp at qu0; have zu0 := kb.frozen 0; have Hkb := Lib.hid kb; clear kb
                  cases mm with
                  | true =>
                    go_wp2_with fail
                    refine (S1.out _ HP.out).mono ?_
                    rintro e w13 ⟨rfl, hb13⟩
                    have k613 := H6.out.step hb13
                    have hlx := k613.lt; have hllx := lts hlx; have qx0 := k613.cell 0; have qx1 := k613.cell 1; have qx2 := k613.cell 2; have qx3 := k613.cell 3; have qx4 := k613.cell 4; have qx5 := k613.cell 5; have qx6 := k613.cell 6; have qx7 := k613.cell 7; have qx8 := k613.cell 8; have qx9 := k613.cell 9; have qx10 := k613.cell 10; have qx11 := k613.cell 11; have qx12 := k613.cell 12; simp at qx0 qx1 qx2 qx3 qx4 qx5 qx6 qx7 qx8 qx9 qx10 qx11 qx12; have zx0 := k613.frozen 0; have zx1 := k613.frozen 1; have zx2 := k613.frozen 2; have zx3 := k613.frozen 3; have zx4 := k613.frozen 4; have zx5 := k613.frozen 5; have zx6 := k613.frozen 6; have zx7 := k613.frozen 7; have zx8 := k613.frozen 8; have zx9 := k613.frozen 9; have zx10 := k613.frozen 10; have zx11 := k613.frozen 11; have zx12 := k613.frozen 12; have Hk613 := Lib.hid k613; clear k613
                    go_wp2_with fail
                    go_meet
                    case rel => exact ⟨(HB.out.step hb13).far (by show w.heap.size ≠ w2.heap.size; omega) _, (HR2.out.step hb13).far (by show w.heap.size + 1 ≠ w2.heap.size; omega) _, by have := (H6.out.step hb13).set_ 12 (.bool true); simpa using this, H.out.turnF HRL.out (HP.out.step hb13) (Turned.setCell _ _ 12 _) (by omega), Gr.turnFar (HG.out.bstep hb13) (Turned.setCell _ w2.heap.size 12 _) (by omega)⟩
                  | false =>
                    go_wp2_with fail
                    refine (S1.out _ HP.out).mono ?_
                    rintro e w13 ⟨rfl, hb13⟩
                    have kb13 := HB.out.step hb13
                    have HB13 := Lib.hid kb13
                    clear qu0 zu0 hlu hllu
                    have hlu := kb13.lt; have hllu := lts hlu; have qu0 := kb13.cell 0; simp at qu0; have zu0 := kb13.frozen 0; have Hkb13 := Lib.hid kb13; clear kb13
                    go_wp2_with fail
                    refine (S2.out _ (HP.out.step hb13)).mono ?_
                    rintro e w14 ⟨rfl, hb14⟩
                    have k614 := (H6.out.step hb13).step hb14
                    have hlx := k614.lt; have hllx := lts hlx; have qx0 := k614.cell 0; have qx1 := k614.cell 1; have qx2 := k614.cell 2; have qx3 := k614.cell 3; have qx4 := k614.cell 4; have qx5 := k614.cell 5; have qx6 := k614.cell 6; have qx7 := k614.cell 7; have qx8 := k614.cell 8; have qx9 := k614.cell 9; have qx10 := k614.cell 10; have qx11 := k614.cell 11; have qx12 := k614.cell 12; simp at qx0 qx1 qx2 qx3 qx4 qx5 qx6 qx7 qx8 qx9 qx10 qx11 qx12; have zx0 := k614.frozen 0; have zx1 := k614.frozen 1; have zx2 := k614.frozen 2; have zx3 := k614.frozen 3; have zx4 := k614.frozen 4; have zx5 := k614.frozen 5; have zx6 := k614.frozen 6; have zx7 := k614.frozen 7; have zx8 := k614.frozen 8; have zx9 := k614.frozen 9; have zx10 := k614.frozen 10; have zx11 := k614.frozen 11; have zx12 := k614.frozen 12; have Hk614 := Lib.hid k614; clear k614
                    go_wp2_with fail
                    go_meet
                    case rel => exact ⟨(HB13.out.step hb14).far (by show w.heap.size ≠ w2.heap.size; omega) _, ((HR2.out.step hb13).step hb14).far (by show w.heap.size + 1 ≠ w2.heap.size; omega) _, by have := ((H6.out.step hb13).step hb14).set_ 12 (.bool nn); simpa using this, H.out.turnF HRL.out ((HP.out.step hb13).step hb14) (Turned.setCell _ _ 12 _) (by omega), Gr.turnFar ((HG.out.bstep hb13).bstep hb14) (Turned.setCell _ w2.heap.size 12 _) (by omega)⟩
                case rest =>
                  clear HB HR2 H6 HP HG kb k6 S1 S2 hz hw6
                  obtain ⟨kb, kr, k6, hp, g⟩ := hcut
                  have hz := g.size
                  have hw6 : w2.heap.size < wc.heap.size := k6.lt
                  have HB := Lib.hid kb
                  have HR2 := Lib.hid kr
                  have H6 := Lib.hid k6
                  have HP := Lib.hid hp
                  have HG := Lib.hid g
                  clear kr hp g k6
                  go_upto_region 19 with fail
                  go_cut [116] (fun x wx => x = .bool (!uu && (!mm && !nn)) ∧ Blk wx w.heap.size 87 #[.pointer (some ⟨b, 0, none⟩)] ∧ Blk wx (w.heap.size + 1) 82 #[.int .i64 0, .int .i64 0, .int .i64 0, .int .i64 0, .string ⟨#[]⟩, .int .i64 0, .int .i64 0, .int .i64 0, .int .i64 0, .string ⟨#[]⟩, .int .i64 0, .bool false, .bool false] ∧ Blk wx w2.heap.size 82 #[.int .i64 6, .int .i64 lk, .int .i64 ln, .int .i64 ls, .string lq, .int .i64 lm, .int .i64 xk, .int .i64 xn, .int .i64 xs, .string xq, .int .i64 xm, .bool (a || d), .bool (mm || nn)] ∧ PB wx b A c (if uu = true ∨ mm = true ∨ nn = true then R.adv else R) ∧ Gr b w wx)
                  case first =>
                    have hlu := kb.lt; have hllu := lts hlu; have qu0 := kb.cell 0; simp at qu0; have zu0 := kb.frozen 0; have Hkb := Lib.hid kb; clear kb
                    cases uu with
                    | true =>
                      go_wp2_with fail
                      refine (T1.out _ HP.out).mono ?_
                      rintro e w13 ⟨rfl, h13, g13⟩
                      go_wp2_with fail
                      go_meet
                      case rel => exact ⟨rfl, HB.out.gr g13 (by omega), HR2.out.gr g13 (by omega), H6.out.gr g13 (by omega), h13, HG.out.trans g13⟩
                    | false =>
                      go_wp2_with fail
                      refine (T1.out _ HP.out).mono ?_
                      rintro e w13 ⟨rfl, h13, g13⟩
                      have kb13 := HB.out.gr g13 (by omega)
                      have kr13 := HR2.out.gr g13 (by omega)
                      have k613 := H6.out.gr g13 (by omega)
                      have g013 := HG.out.trans g13
                      have hz13 := g13.size
                      have HB13 := Lib.hid kb13
                      have h13' : PB w13 b A c R := h13
                      clear qu0 zu0 hlu hllu h13
                      have hlu := kb13.lt; have hllu := lts hlu; have qu0 := kb13.cell 0; simp at qu0; have zu0 := kb13.frozen 0; have Hkb13 := Lib.hid kb13; clear kb13
                      cases mm with
                      | true =>
                        go_wp2_with fail
                        refine (T2.out _ h13').mono ?_
                        rintro e w14 ⟨rfl, h14, g14⟩
                        go_wp2_with fail
                        go_meet
                        case rel => exact ⟨rfl, HB13.out.gr g14 (by omega), kr13.gr g14 (by omega), k613.gr g14 (by omega), h14, g013.trans g14⟩
                      | false =>
                        go_wp2_with fail
                        refine (T2.out _ h13').mono ?_
                        rintro e w14 ⟨rfl, h14, g14⟩
                        have kb14 := HB13.out.gr g14 (by omega)
                        have kr14 := kr13.gr g14 (by omega)
                        have k614 := k613.gr g14 (by omega)
                        have g014 := g013.trans g14
                        have hz14 := g14.size
                        have HB14 := Lib.hid kb14
                        have h14' : PB w14 b A c R := h14
                        clear qu0 zu0 hlu hllu h14
                        have hlu := kb14.lt; have hllu := lts hlu; have qu0 := kb14.cell 0; simp at qu0; have zu0 := kb14.frozen 0; have Hkb14 := Lib.hid kb14; clear kb14
                        go_wp2_with fail
                        refine (T3.out _ h14').mono ?_
                        rintro e w15 ⟨rfl, h15, g15⟩
                        go_wp2_with fail
                        go_meet
                        case rel => exact ⟨by cases nn <;> rfl, HB14.out.gr g15 (by omega), kr14.gr g15 (by omega), k614.gr g15 (by omega), by cases nn <;> exact h15, g014.trans g15⟩
                  case rest =>
                    clear HB HR2 H6 HP HG kb T1 T2 T3 hz hw6
                    obtain ⟨rfl, kb, kr, k6, hp, g⟩ := hcut
                    have hz := g.size
                    have hw6 : w2.heap.size < wc.heap.size := k6.lt
                    by_cases hbr : uu = true ∨ mm = true ∨ nn = true
                    · have hbv : (!uu && (!mm && !nn)) = false := by
                        rcases hbr with h | h | h <;> rw [h] <;> simp
                      rw [if_pos hbr] at hp HX2
                      rw [hbv]
                      clear hbr hbv
                      rename_i K1 ha1 K2 ha2
                      refine ha2 _ _ ?_
                      refine wp_cond_false rfl ?_
                      refine wp_skip ?_
                      refine ha1 _ _ ?_
                      refine load_store_ret rfl rfl rfl rfl (by simp) (by decide) rfl k6 kr rfl Tryz.underlying82 (by kernel_rfl) (by simp [Value.oneCell']) fun w1 krn ht => ?_
                      have hr := HX2.out
                      subst hr
                      exact ⟨by rw [← HQ.out.1, ← HQ.out.2]; rfl, H.out.turnF HRL.out hp ht (by omega), Gr.turnFar g ht (by omega)⟩
                    · have hbv : (!uu && (!mm && !nn)) = true := by
                        cases uu <;> cases mm <;> cases nn <;> first | rfl | exact absurd (by simp) hbr
                      rw [if_neg hbr] at hp HX2
                      rw [hbv]
                      clear hbr hbv
                      rename_i K1 ha1 K2 ha2
                      refine ha2 _ _ ?_
                      refine wp_cond_true rfl ?_
                      have hlu := kb.lt; have hllu := lts hlu; have qu0 := kb.cell 0; simp at qu0; have zu0 := kb.frozen 0; have Hkb := Lib.hid kb; clear kb
                      go_wp2_with fail
                      refine (KF.out R _ hp).mono ?_
                      rintro e w16 ⟨rfl, h16, g16⟩
                      have kr16 := kr.gr g16 (by omega)
                      have k616 := k6.gr g16 (by omega)
                      clear qu0 zu0 hlu hllu
                      go_upto_region 21 with fail
                      rename_i K3 ha3
                      refine load_store_k (d := 120) (r := 2) (s := 6) rfl rfl rfl rfl (by simp) (by decide) rfl k616 kr16 rfl Tryz.underlying82 (by kernel_rfl) (by simp [Value.oneCell']) ha3 fun w1 krn ht => ?_
                      have hr := HX2.out
                      subst hr
                      exact ⟨by rw [← HQ.out.1, ← HQ.out.2]; rfl, H.out.turnF (by rw [fail_L]; exact HRL.out) h16 ht (by omega), Gr.turnFar (g.trans g16) ht (by omega)⟩
          · have hbv : (!l && (!a && !d)) = true := by
              cases l <;> cases a <;> cases d <;> first | rfl | exact absurd (by simp) hbr
            rw [if_neg hbr] at hp HN2
            rw [hbv]
            clear hbr hbv
            have hlu := kb.lt; have hllu := lts hlu; have qu0 := kb.cell 0; simp at qu0; have zu0 := kb.frozen 0; have Hkb := Lib.hid kb; clear kb
            go_wp2_with fail
            refine (KI.out _ hp).mono ?_
            rintro e w2 ⟨rfl, h2, g2⟩
            have kr2 := kr.gr g2 (by omega)
            dsimp only [cellsV]
            clear qu0 zu0 hlu hllu kr
            go_wp2_with (first | (refine wpList_store_blk kr2 rfl _ _ _ (by rfl) _ (by rfl) (by rfl) (by (repeat (first | (with_reducible exact kr2) | (with_reducible refine Blk.alloc ?_ _) | (with_reducible refine Blk.drew ?_) | (with_reducible refine Blk.far ?_ (by first | (simp; done) | (simp; omega)) _) | (with_reducible refine Blk.turn ?_ (by with_reducible assumption) (by omega))))) (by rfl) (by kernel_rfl) (by simp [Value.oneCell']) ?_; intro wt kr2n ht))
            refine ret_blk rfl kr2n rfl Tryz.underlying82 rfl (by kernel_rfl) rfl ?_
            have hr := HN2.out
            subst hr
            exact ⟨rfl, H.out.turnF (by rw [lit_L]) h2 ht (by omega), Gr.turnFar (g.trans g2) ht (by omega)⟩
end Go.Proofs.YtkkeplmaphcblaaGreatDoor
