/- The walk of LogicLaws. -/
import Derived.Test.YtkppkppbdhcpnaaLogicG
namespace Go.Proofs.Ytkppkppbdhcpnaa
open Go.RowKit
attribute [local go_sem high] run_val_eql run_val_neq

theorem own_step {w w' : World} {base : Nat} {e : TypeId} {size n : Nat} {v : Value} {xs : List Value} (h : w.ownsRow base e size v n xs) (hb : Below w.heap.size w w') : w'.ownsRow base e size v n xs := by
  obtain ⟨h1, h2⟩ := h
  refine ⟨h1, ?_⟩
  rcases h2 with h2 | ⟨g, cap, cur, hv, hg, hh, r⟩
  · exact Or.inl h2
  · have hlt : g < w.heap.size := Blk.lt (t := e) (cs := cur) hh
    exact Or.inr ⟨g, cap, cur, hv, hg, (hb.block g hlt).trans hh, r⟩
theorem vs_one {w : World} {g : Nat} {T : TypeId} {a : Val} (h : Blk w g T #[.int .i64 a.k, .int .i64 a.n, .int .i64 a.s, .string a.t, .int .i64 a.m]) : VS w (some ⟨g, 0, none⟩) [a] := by
  intro i v hv
  match i, hv with
  | 0, hv => obtain rfl : a = v := by simpa using hv
             exact ⟨g, 0, rfl, h.cell 0, h.cell 1, h.cell 2, h.cell 3, h.cell 4⟩
  | n + 1, hv => simp at hv

/-- After k rounds: what has been gathered. -/
def LoopRel (w wr : World) (us : List Val) (k : Nat) (x y : Value) : Prop :=
  wr.ownsRow w.heap.size 27 5 x k (flat ((us.take k).map notS)) ∧ wr.ownsRow w.heap.size 27 5 y k (flat (us.reverse.take k)) ∧
    (y.ownBlock = none ∨ y.ownBlock ≠ x.ownBlock) ∧ Below w.heap.size w wr

theorem take_not {us : List Val} {v : Val} {k : Nat} (hlt : k < us.length) (hv : us[k] = v) : flat ((us.take (k + 1)).map notS) = flat ((us.take k).map notS) ++ flat [notS v] := by
  rw [List.take_succ_eq_append_getElem hlt, hv, List.map_append, flat_append]; rfl
theorem take_rev {us : List Val} {v : Val} {k : Nat} (hlt : k < us.length) (hv : us[us.length - 1 - k] = v) : flat (us.reverse.take (k + 1)) = flat (us.reverse.take k) ++ flat [v] := by
  rw [List.take_succ_eq_append_getElem (by simpa using hlt), List.getElem_reverse, hv, flat_append]
theorem below_own {w a b : World} {e : TypeId} {size n : Nat} {v : Value} {xs : List Value} (h : Below w.heap.size w a) (hown : a.ownsRow w.heap.size e size v n xs) (hg : a.grownBy b v.ownBlock) : Below w.heap.size w b :=
  h.grown hg h.size (fun k hk => (hown.lt k hk).1)

theorem dis {x1 y1 xo yo : Option Nat} {s1 s2 : Nat} (hx : x1 = xo ∨ x1 = some s1) (hy : y1 = yo ∨ y1 = some s2) (hd : yo = none ∨ yo ≠ xo) (hyl : ∀ k, yo = some k → k < s1) (hxl : ∀ k, x1 = some k → k < s2) (hs : ∃ g, x1 = some g) :
    x1 ≠ yo ∧ (y1 = none ∨ y1 ≠ x1) := by
  obtain ⟨g, rfl⟩ := hs
  have hg := hxl g rfl
  have h1 : some g ≠ yo := by
    intro e
    have := hyl g e.symm
    rcases hx with hx | hx
    · rcases hd with hd | hd
      · rw [hd] at e; cases e
      · exact hd (by rw [← hx]; exact e.symm)
    · injection hx with hx; omega
  refine ⟨h1, ?_⟩
  rcases hy with rfl | rfl
  · exact .inr (fun e => h1 e.symm)
  · exact .inr (fun e => by injection e with e; omega)
theorem own_some {w : World} {base n : Nat} {e : TypeId} {size : Nat} {v : Value} {xs : List Value} (h : w.ownsRow base e size v (n + 1) xs) : ∃ g, v.ownBlock = some g := by
  obtain ⟨g, cap, hv, _⟩ := h.form (by omega)
  exact ⟨g, by rw [hv]; rfl⟩

theorem own_slice {w : World} {base n : Nat} {v : Value} {vs : List Val} (h : w.ownsRow base 27 5 v n (flat vs)) : ∃ A c, v = .slice A n c ∧ VS w A vs ∧ vs.length = n := by
  rcases Nat.eq_zero_or_pos n with h0 | h0
  · subst h0
    have hl : vs.length = 0 := by have := h.1; rw [flat_length] at this; omega
    obtain rfl := List.eq_nil_of_length_eq_zero hl
    rcases h.2 with ⟨hv, _⟩ | ⟨g, cap, cur, hv, _⟩
    · exact ⟨none, 0, hv, fun i v hv => by simp at hv, rfl⟩
    · exact ⟨_, cap, hv, fun i v hv => by simp at hv, rfl⟩
  · obtain ⟨g, cap, hv, _⟩ := h.form h0
    subst hv
    obtain ⟨h1, h2⟩ := vs_of_own h
    exact ⟨_, cap, rfl, h1, h2⟩

theorem and_v {A : Option Addr} {n c : Nat} {vs : List Val} {w : World} (hl : vs.length = n) (hv : VS w A vs) (hn : n ≤ 3000000) :
    Calls Try.prog 8 #[.slice A n c] w fun e w' => e = .returned (.agg #[.int .i64 (allS true (tv true) vs).k, .int .i64 (allS true (tv true) vs).n, .int .i64 (allS true (tv true) vs).s, .string (allS true (tv true) vs).t, .int .i64 (allS true (tv true) vs).m]) ∧ Below w.heap.size w w' := and_lit hl hv (by simp only [maxLen]; omega)
theorem or_v {A : Option Addr} {n c : Nat} {vs : List Val} {w : World} (hl : vs.length = n) (hv : VS w A vs) (hn : n ≤ 3000000) :
    Calls Try.prog 10 #[.slice A n c] w fun e w' => e = .returned (.agg #[.int .i64 (allS false (tv false) vs).k, .int .i64 (allS false (tv false) vs).n, .int .i64 (allS false (tv false) vs).s, .string (allS false (tv false) vs).t, .int .i64 (allS false (tv false) vs).m]) ∧ Below w.heap.size w w' := or_lit hl hv (by simp only [maxLen]; omega)
theorem or_nots {A : Option Addr} {n c : Nat} {vs : List Val} {w : World} (hl : (vs.map notS).length = n) (hv : VS w A (vs.map notS)) (hn : n ≤ 3000000) :
    Calls Try.prog 10 #[.slice A n c] w fun e w' => e = .returned (.agg #[.int .i64 (notS (allS true (tv true) vs)).k, .int .i64 (notS (allS true (tv true) vs)).n, .int .i64 (notS (allS true (tv true) vs)).s, .string (notS (allS true (tv true) vs)).t, .int .i64 (notS (allS true (tv true) vs)).m]) ∧ Below w.heap.size w w' := not_and vs ▸ or_v hl hv hn
theorem and_rev {A : Option Addr} {n c : Nat} {vs : List Val} {w : World} (hl : vs.reverse.length = n) (hv : VS w A vs.reverse) (hn : n ≤ 3000000) :
    Calls Try.prog 8 #[.slice A n c] w fun e w' => e = .returned (.agg #[.int .i64 (allS true (tv true) vs).k, .int .i64 (allS true (tv true) vs).n, .int .i64 (allS true (tv true) vs).s, .string (allS true (tv true) vs).t, .int .i64 (allS true (tv true) vs).m]) ∧ Below w.heap.size w w' := all_reverse true vs ▸ and_v hl hv hn
theorem or_rev {A : Option Addr} {n c : Nat} {vs : List Val} {w : World} (hl : vs.reverse.length = n) (hv : VS w A vs.reverse) (hn : n ≤ 3000000) :
    Calls Try.prog 10 #[.slice A n c] w fun e w' => e = .returned (.agg #[.int .i64 (allS false (tv false) vs).k, .int .i64 (allS false (tv false) vs).n, .int .i64 (allS false (tv false) vs).s, .string (allS false (tv false) vs).t, .int .i64 (allS false (tv false) vs).m]) ∧ Below w.heap.size w w' := all_reverse false vs ▸ or_v hl hv hn
theorem and_app {A : Option Addr} {n c : Nat} {us bs : List Val} {w : World} (hl : (us ++ bs).length = n) (hv : VS w A (us ++ bs)) (hn : us.length + bs.length ≤ 3000000) :
    Calls Try.prog 8 #[.slice A n c] w fun e w' => e = .returned (.agg #[.int .i64 (allS true (tv true) [allS true (tv true) us, allS true (tv true) bs]).k, .int .i64 (allS true (tv true) [allS true (tv true) us, allS true (tv true) bs]).n, .int .i64 (allS true (tv true) [allS true (tv true) us, allS true (tv true) bs]).s, .string (allS true (tv true) [allS true (tv true) us, allS true (tv true) bs]).t, .int .i64 (allS true (tv true) [allS true (tv true) us, allS true (tv true) bs]).m]) ∧ Below w.heap.size w w' := all_append true us bs ▸ and_v hl hv (by rw [← hl, List.length_append]; exact hn)
theorem or_app {A : Option Addr} {n c : Nat} {us bs : List Val} {w : World} (hl : (us ++ bs).length = n) (hv : VS w A (us ++ bs)) (hn : us.length + bs.length ≤ 3000000) :
    Calls Try.prog 10 #[.slice A n c] w fun e w' => e = .returned (.agg #[.int .i64 (allS false (tv false) [allS false (tv false) us, allS false (tv false) bs]).k, .int .i64 (allS false (tv false) [allS false (tv false) us, allS false (tv false) bs]).n, .int .i64 (allS false (tv false) [allS false (tv false) us, allS false (tv false) bs]).s, .string (allS false (tv false) [allS false (tv false) us, allS false (tv false) bs]).t, .int .i64 (allS false (tv false) [allS false (tv false) us, allS false (tv false) bs]).m]) ∧ Below w.heap.size w w' := all_append false us bs ▸ or_v hl hv (by rw [← hl, List.length_append]; exact hn)

set_option maxHeartbeats 4000000 in
theorem lawLaws_any (A B : Option Addr) (ca cb : Nat) (us bs : List Val) (w : World) (ha : VS w A us) (hb : VS w B bs) (hn : us.length + bs.length ≤ 1048576) :
    Calls Try.prog 5 #[.slice A us.length ca, .slice B bs.length cb] w fun e w' => e = .returned (.bool true) ∧ Below w.heap.size w w' := by
  obtain ⟨i0, hi, hz0, hz1, hz2⟩ := info_parts info_val
  have HI := Lib.hid hi
  have HZ0 := Lib.hid hz0
  have HZ1 := Lib.hid hz1
  have HZ2 := Lib.hid hz2
  clear hi hz0 hz1 hz2
  go_enter Try.func5, Try.ntmps5
  go_wp2
  go_loopw [5, 6, 7] (fun x y i wr => ∃ k : Nat, k ≤ us.length ∧ i = .int .i64 k ∧ LoopRel w wr us k x y) (fun _ _ i _ => us.length - (intOf i).toNat)
  case atStart =>
    exact ⟨0, Nat.zero_le _, rfl, ⟨by simp [flat], .inl ⟨rfl, rfl⟩⟩, ⟨by simp [flat], .inl ⟨rfl, rfl⟩⟩, .inl rfl, Below.refl _ _⟩
  case round =>
    obtain ⟨k, hk, rfl, hx, hy, hd2, hbl⟩ := hrel
    by_cases hlt : k < us.length
    · have hA := ha.step hbl
      obtain ⟨b, o, rfl, g0, g1, g2, g3, g4⟩ := hA k us[k] (List.getElem?_eq_getElem hlt)
      have HT := Lib.hid (take_not hlt rfl)
      have HR := Lib.hid (take_rev hlt rfl)
      have HF : ∀ w2, Below w.heap.size w w2 → w2.cell? ⟨b, o + (us.length - 1 - k) * 5, none⟩ = some (.int .i64 us[us.length - 1 - k].k) ∧ w2.cell? ⟨b, o + (us.length - 1 - k) * 5 + 1, none⟩ = some (.int .i64 us[us.length - 1 - k].n) ∧ w2.cell? ⟨b, o + (us.length - 1 - k) * 5 + 2, none⟩ = some (.int .i64 us[us.length - 1 - k].s) ∧ w2.cell? ⟨b, o + (us.length - 1 - k) * 5 + 3, none⟩ = some (.string us[us.length - 1 - k].t) ∧ w2.cell? ⟨b, o + (us.length - 1 - k) * 5 + 4, none⟩ = some (.int .i64 us[us.length - 1 - k].m) := fun w2 hb2 => by
        obtain ⟨b', o', hA', h⟩ := (ha.step hb2) (us.length - 1 - k) us[us.length - 1 - k] (List.getElem?_eq_getElem (by omega))
        cases hA'
        exact h
      replace HF := Lib.hid HF
      generalize us[us.length - 1 - k] = v2 at *
      generalize us[k] = v at *
      go_wp2_with fail
      refine (not_lit v _).mono ?_
      rintro e w1 ⟨rfl, hb1⟩
      clear g0 g1 g2 g3 g4 hA
      have hbl1 := balloc (bstep hbl hb1) (.cells #[.int .i64 (notS v).k, .int .i64 (notS v).n, .int .i64 (notS v).s, .string (notS v).t, .int .i64 (notS v).m] 27)
      have hx1 := own_step (own_step hx hb1) (balloc (Below.refl w1.heap.size w1) (.cells #[.int .i64 (notS v).k, .int .i64 (notS v).n, .int .i64 (notS v).s, .string (notS v).t, .int .i64 (notS v).m] 27))
      have hy1 := own_step (own_step hy hb1) (balloc (Below.refl w1.heap.size w1) (.cells #[.int .i64 (notS v).k, .int .i64 (notS v).n, .int .i64 (notS v).s, .string (notS v).t, .int .i64 (notS v).m] 27))
      have hr1 := reads_of_vs (vs_one (a := notS v) (Blk.new w1 27 _))
      have hsz1 := hbl1.size
      simp only [World.size_alloc] at hsz1
      have hi0 : (0 : Int) ≤ (us.length : Int) - 1 - (k : Int) := by omega
      go_wp2_with (first
        | (at_builtin; refine wpList_append_any _ rfl (.tmp 15) (.tmp 21) _ (by rfl) w.heap.size 27 i0 _ 5 48 Try.underlying22 HI.out HZ0.out HZ1.out HZ2.out rfl (by omega) _ k _ (by rfl) hx1 _ _ 1 1 _ (by rfl) hr1 (flat_one _) (by simp only [maxLen]; omega) (by omega) hbl1.size ?_; intro x1 w2 hown1 hg1 hat1; have hbl2 := below_own hbl1 hx1 hg1; have hf2 := HF.out w2 hbl2)
        | (at_builtin; refine wpList_append_any _ rfl (.tmp 23) (.tmp 32) _ (by rfl) w.heap.size 27 i0 _ 5 48 Try.underlying22 HI.out HZ0.out HZ1.out HZ2.out rfl (by omega) _ k _ (by rfl) (own_step (hy1.kept hg1 hd2) (balloc (Below.refl w2.heap.size w2) (.cells #[.int .i64 v2.k, .int .i64 v2.n, .int .i64 v2.s, .string v2.t, .int .i64 v2.m] 27))) _ _ 1 1 _ (by rfl) (reads_of_vs (vs_one (a := v2) (Blk.new w2 27 _))) (flat_one _) (by simp only [maxLen]; omega) (by omega) (balloc hbl2 _).size ?_; intro y1 w3 hown2 hg2 hat2))
      have hdd := dis hat1 hat2 hd2 (fun q hq => (hy1.lt q hq).2) (fun q hq => Nat.lt_trans (hown1.lt q hq).2 (by simp)) (own_some hown1)
      go_roundw
      case rel =>
        refine ⟨k + 1, by omega, by go_num, ?_, ?_, hdd.2, below_own (balloc hbl2 _) (own_step (hy1.kept hg1 hd2) (balloc (Below.refl w2.heap.size w2) _)) hg2⟩
        · rw [HT.out]
          exact (own_step hown1 (balloc (Below.refl w2.heap.size w2) _)).kept hg2 (.inr hdd.1)
        · rw [HR.out]
          exact hown2
      case measure => simp [intOf]; omega
    · have hkn : k = us.length := by omega
      have hxl : flat ((us.take k).map notS) = flat (us.map notS) := by rw [List.take_of_length_le (by omega)]
      have hyl : flat (us.reverse.take k) = flat us.reverse := by rw [List.take_of_length_le (by simp; omega)]
      rw [hxl] at hx
      rw [hyl] at hy
      clear hxl hyl
      subst hkn
      obtain ⟨An, cn, rfl, hvx, hlx⟩ := own_slice hx
      obtain ⟨At, ct, rfl, hvy, hly⟩ := own_slice hy
      have hva := ha.step hbl
      have hvb := hb.step hbl
      have HLX := Lib.hid hlx
      have HLY := Lib.hid hly
      have HVA := Lib.hid ha
      have HVB := Lib.hid hb
      clear hx hy hd2 ha hb hlx hly
      have hn1 : us.length ≤ 3000000 := by omega
      have hn2 : bs.length ≤ 3000000 := by omega
      go_wp2_with fail
      refine (awake_any _).mono ?_
      rintro e w1 ⟨rfl, h1⟩
      replace hva := hva.step h1; replace hvb := hvb.step h1; replace hvx := hvx.step h1; replace hvy := hvy.step h1
      go_wp2_with fail
      refine (and_v rfl hva hn1).mono ?_
      rintro e w2 ⟨rfl, h2⟩
      replace hva := hva.step h2; replace hvb := hvb.step h2; replace hvx := hvx.step h2; replace hvy := hvy.step h2
      go_wp2_with fail
      refine (not_lit (allS true (tv true) us) _).mono ?_
      rintro e w3 ⟨rfl, h3⟩
      replace hva := hva.step h3; replace hvb := hvb.step h3; replace hvx := hvx.step h3; replace hvy := hvy.step h3
      go_wp2_with fail
      refine (or_nots HLX.out hvx hn1).mono ?_
      rintro e w4 ⟨rfl, h4⟩
      replace hva := hva.step h4; replace hvb := hvb.step h4; replace hvy := hvy.step h4
      go_wp2_with fail
      refine (and_v rfl hva hn1).mono ?_
      rintro e w5 ⟨rfl, h5⟩
      replace hva := hva.step h5; replace hvb := hvb.step h5; replace hvy := hvy.step h5
      go_wp2_with fail
      refine (and_rev HLY.out hvy hn1).mono ?_
      rintro e w6 ⟨rfl, h6⟩
      replace hva := hva.step h6; replace hvb := hvb.step h6; replace hvy := hvy.step h6
      go_wp2_with fail
      refine (or_v rfl hva hn1).mono ?_
      rintro e w7 ⟨rfl, h7⟩
      replace hva := hva.step h7; replace hvb := hvb.step h7; replace hvy := hvy.step h7
      go_wp2_with fail
      refine (or_rev HLY.out hvy hn1).mono ?_
      rintro e w8 ⟨rfl, h8⟩
      have B8 : Below w.heap.size w w8 := bstep (bstep (bstep (bstep (bstep (bstep (bstep (bstep hbl h1) h2) h3) h4) h5) h6) h7) h8
      have B9 := balloc B8 (.cells #[] 27)
      have hown0 := World.ownsRow_lit (base := w.heap.size) (size := 5) (e := 27) w8 #[] 0 B8.size (by decide) rfl
      clear hva hvb hvy hbl h1 h2 h3 h4 h5 h6 h7 h8
      go_wp2_with (first
        | (at_builtin; refine wpList_append_any _ rfl (.tmp 58) (.tmp 59) _ (by rfl) w.heap.size 27 i0 _ 5 48 Try.underlying22 HI.out HZ0.out HZ1.out HZ2.out rfl (by omega) _ 0 _ (by rfl) hown0 _ _ us.length ca _ (by rfl) (reads_of_vs (HVA.out.step B9)) (flat_one _) (by simp only [maxLen]; omega) (by omega) B9.size ?_; intro va wa howna hga hata; have Ba := below_own B9 hown0 hga)
        | (at_builtin; refine wpList_append_any _ rfl (.tmp 60) (.tmp 61) _ (by rfl) w.heap.size 27 i0 _ 5 48 Try.underlying22 HI.out HZ0.out HZ1.out HZ2.out rfl (by omega) _ _ _ (by rfl) howna _ _ bs.length cb _ (by rfl) (reads_of_vs (HVB.out.step Ba)) (flat_one _) (by simp only [maxLen]; omega) (by omega) Ba.size ?_; intro vb wb hownb hgb hatb; have Bb := below_own Ba howna hgb; obtain ⟨Ac, cc, rfl, hvc, hlc⟩ := own_slice (vs := us ++ bs) (by simpa [flat_append] using hownb)))
      refine (and_app hlc hvc (by omega)).mono ?_
      rintro e x1 ⟨rfl, h⟩
      replace Bb := bstep Bb h
      replace hvc := hvc.step h
      clear h
      go_wp2_with fail
      refine (and_v rfl (HVA.out.step Bb) hn1).mono ?_
      rintro e x2 ⟨rfl, h⟩
      replace Bb := bstep Bb h
      replace hvc := hvc.step h
      clear h
      go_wp2_with fail
      refine (and_v rfl (HVB.out.step Bb) hn2).mono ?_
      rintro e x3 ⟨rfl, h⟩
      replace Bb := bstep Bb h
      replace hvc := hvc.step h
      clear h
      go_wp2_with fail
      replace hvc := hvc.alloc (.cells (#[.int .i64 (allS true (tv true) us).k, .int .i64 (allS true (tv true) us).n, .int .i64 (allS true (tv true) us).s, .string (allS true (tv true) us).t, .int .i64 (allS true (tv true) us).m] ++ #[.int .i64 (allS true (tv true) bs).k, .int .i64 (allS true (tv true) bs).n, .int .i64 (allS true (tv true) bs).s, .string (allS true (tv true) bs).t, .int .i64 (allS true (tv true) bs).m]) 27)
      replace Bb := balloc Bb (.cells (#[.int .i64 (allS true (tv true) us).k, .int .i64 (allS true (tv true) us).n, .int .i64 (allS true (tv true) us).s, .string (allS true (tv true) us).t, .int .i64 (allS true (tv true) us).m] ++ #[.int .i64 (allS true (tv true) bs).k, .int .i64 (allS true (tv true) bs).n, .int .i64 (allS true (tv true) bs).s, .string (allS true (tv true) bs).t, .int .i64 (allS true (tv true) bs).m]) 27)
      refine (and_v (vs := [(allS true (tv true) us), (allS true (tv true) bs)]) rfl (vs_two (Blk.new' _ _ _ (by simp))) (by simp)).mono ?_
      rintro e x4 ⟨rfl, h⟩
      replace Bb := bstep Bb h
      replace hvc := hvc.step h
      clear h
      go_wp2_with fail
      refine (or_app hlc hvc (by omega)).mono ?_
      rintro e x5 ⟨rfl, h⟩
      replace Bb := bstep Bb h
      clear h hvc
      go_wp2_with fail
      refine (or_v rfl (HVA.out.step Bb) hn1).mono ?_
      rintro e x6 ⟨rfl, h⟩
      replace Bb := bstep Bb h
      clear h
      go_wp2_with fail
      refine (or_v rfl (HVB.out.step Bb) hn2).mono ?_
      rintro e x7 ⟨rfl, h⟩
      replace Bb := bstep Bb h
      clear h
      go_wp2_with fail
      replace Bb := balloc Bb (.cells (#[.int .i64 (allS false (tv false) us).k, .int .i64 (allS false (tv false) us).n, .int .i64 (allS false (tv false) us).s, .string (allS false (tv false) us).t, .int .i64 (allS false (tv false) us).m] ++ #[.int .i64 (allS false (tv false) bs).k, .int .i64 (allS false (tv false) bs).n, .int .i64 (allS false (tv false) bs).s, .string (allS false (tv false) bs).t, .int .i64 (allS false (tv false) bs).m]) 27)
      refine (or_v (vs := [(allS false (tv false) us), (allS false (tv false) bs)]) rfl (vs_two (Blk.new' _ _ _ (by simp))) (by simp)).mono ?_
      rintro e x8 ⟨rfl, h⟩
      replace Bb := bstep Bb h
      clear h
      go_wp2_with fail
      go_ret
      exact ⟨rfl, Bb⟩
end Go.Proofs.Ytkppkppbdhcpnaa
