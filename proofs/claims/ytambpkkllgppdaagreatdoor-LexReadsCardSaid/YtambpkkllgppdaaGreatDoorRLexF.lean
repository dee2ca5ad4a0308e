/- The reference's one at any place of a text, and its Tokens at any text. -/
import Derived.Test.YtambpkkllgppdaaGreatDoorRLexE
namespace Go.Proofs.YtambpkkllgppdaaGreatDoor
open Go.RowKit Go.Shelf

/-- What the reference answers by the same numbers, days, signs. -/
structure RxOK (x : Lx) : Prop where
  P : ∀ (s : ByteArray) (l : Bs), s.data.toList = l → l.length ≤ 4000000 → ∀ w, Calls Tryz.prog 38 #[.string s] w fun e w' => e = .returned (.tuple #[.agg #[.int .i64 (x.P l).n, .int .i64 (x.P l).s], .int .i64 (x.P l).e]) ∧ Below w.heap.size w w'
  D : ∀ (s : ByteArray) (l : Bs), s.data.toList = l → l.length ≤ 4000000 → ∀ w, Calls Tryz.prog 41 #[.string s] w fun e w' => e = .returned (.tuple #[.int .i64 (x.D l).1, .int .i64 (x.D l).2]) ∧ Below w.heap.size w w'
  G : ∀ l, x.G l = goodS (bs l)

theorem ext_dt (s : ByteArray) (p n E : Nat) (h : p + n = E) : (s.extract p E).data.toList = (s.data.toList.drop p).take n := by
  rw [ByteArray.data_extract, Array.toList_extract, List.extract_eq_take_drop, show E - p = n by omega]
theorem bs_list (l : Bs) : (bs l).data.toList = l := rfl
theorem qS_size (l : Bs) (q : Bs × Nat) (h : qS l = some q) : q.1.length ≤ l.length ∧ q.2 ≤ l.length := ⟨qS_len _ l q (Nat.le_refl _) h, (qS_app _ l [] q (Nat.le_refl _) h).2.1⟩
def OneOut (N : Nx) (p : Nat) (e : Ending) : Prop := ∃ (k0 : Int) (t0 : ByteArray) (n0 s0 m0 ev : Int), e = .returned (.tuple #[.agg #[.int .i64 k0, .int .i64 (p : Int), .string t0, .int .i64 n0, .int .i64 s0, .int .i64 m0], .int .i64 ev, .int .i64 N.e]) ∧ (N.e = 0 → k0 = N.t.k ∧ t0 = bs N.t.t ∧ n0 = N.t.n ∧ s0 = N.t.s ∧ m0 = N.t.m ∧ ev = ((p + N.n : Nat) : Int))
theorem out_bad {p : Nat} {e : Ending} (h : e = .returned (.tuple #[.agg #[.int .i64 0, .int .i64 (p : Int), .string ⟨#[]⟩, .int .i64 0, .int .i64 0, .int .i64 0], .int .i64 0, .int .i64 5])) : OneOut bad p e :=
  ⟨0, ⟨#[]⟩, 0, 0, 0, 0, h, fun h => absurd h (by decide)⟩

set_option maxRecDepth 100000 in
theorem rone_any (x : Lx) (hx : RxOK x) (s : ByteArray) (p : Nat) (hp : p < s.size) (hs : s.size ≤ 4000000) (N : Nx) (hN : nextS x (s.data.toList.drop p) = N) (w : World) :
    Calls Tryz.prog 19 #[.string s, .int .i64 (p : Int)] w fun e w' => OneOut N p e ∧ Below w.heap.size w w' := by
  have hd := byte_drop s p hp
  obtain ⟨c, hc⟩ : ∃ c, s[p]'hp = c := ⟨_, rfl⟩
  rw [hc] at hd
  have hNc : nextS x (c :: s.data.toList.drop (p + 1)) = N := by rw [← hd]; exact hN
  have hlen : (s.data.toList.drop p).length = s.size - p := by rw [List.length_drop, size_list]
  cases hfig : figs.contains c with
  | true =>
    have hN2 : numS x (s.data.toList.drop p) = N := by
      rw [← hNc, hd, nextS_cons, hfig, if_pos rfl]
    have hnl := numLen_le (s.data.toList.drop p)
    have hP := fun W => hx.P (s.extract p (p + numLen (s.data.toList.drop p))) _ (ext_dt s p _ _ rfl) (by rw [List.length_take]; omega) W
    refine (rone_num s p hp hs (by rw [hc]; exact hfig) _ rfl _ _ _ w (Lib.hid hP)).mono ?_
    rintro _ w' ⟨rfl, hb⟩
    exact ⟨⟨_, _, _, _, _, _, by rw [← hN2]; rfl, fun _ => by rw [← hN2]; exact ⟨rfl, rfl, rfl, rfl, rfl, rfl⟩⟩, hb⟩
  | false =>
  by_cases h34 : c = 34
  · have hv : (((s[p]'hp).toNat : Nat) : Int) = 34 := by rw [hc, h34]; rfl
    have hN2 : strS x (s.data.toList.drop (p + 1)) = N := by
      rw [← hNc, nextS_cons, hfig, if_neg (by simp), if_pos h34]
    unfold strS at hN2
    cases hq : qS (s.data.toList.drop (p + 1)) with
    | none =>
      rw [hq] at hN2
      have hQ := fun W => rquoted_any s p hp hs _ rfl W
      rw [hq] at hQ
      subst hN2
      refine (rone_str_none s p hp hs w hv (Lib.hid hQ)).mono ?_
      rintro _ w' ⟨rfl, hb⟩
      exact ⟨out_bad rfl, hb⟩
    | some q =>
      rw [hq] at hN2
      simp only at hN2
      have hQ := fun W => rquoted_any s p hp hs _ rfl W
      rw [hq] at hQ
      have hqs := qS_size _ _ hq
      have hl1 : (s.data.toList.drop (p + 1)).length = s.size - (p + 1) := by rw [List.length_drop, size_list]
      by_cases h256 : 256 < q.1.length
      · rw [if_pos (.inl h256)] at hN2
        subst hN2
        refine (rone_str_long s p hp hs w hv (bs q.1) _ (by omega) (by rw [bs_size]; omega) (Lib.hid hQ)).mono ?_
        rintro _ w' ⟨rfl, hb⟩
        exact ⟨out_bad rfl, hb⟩
      · have hGd := fun b hb W => rgood_any (bs q.1) (by rw [bs_size]; omega) b hb W
        cases hg : goodS (bs q.1) with
        | false =>
          rw [if_pos (.inr (by rw [hx.G, hg]))] at hN2
          subst hN2
          refine (rone_str_bad s p hp hs w hv (bs q.1) _ (by omega) (by rw [bs_size]; omega) (Lib.hid hQ) (Lib.hid (hGd false hg))).mono ?_
          rintro _ w' ⟨rfl, hb⟩
          exact ⟨out_bad rfl, hb⟩
        | true =>
          rw [if_neg (by rw [hx.G, hg]; simp [h256])] at hN2
          subst hN2
          refine (rone_str_ok s p hp hs w hv (bs q.1) _ (by omega) (by rw [bs_size]; omega) (Lib.hid hQ) (Lib.hid (hGd true hg))).mono ?_
          rintro _ w' ⟨rfl, hb⟩
          exact ⟨⟨_, _, _, _, _, _, rfl, fun _ => ⟨rfl, rfl, rfl, rfl, rfl, by show ((p + 1 + q.2 : Nat) : Int) = ((p + (q.2 + 1) : Nat) : Int); omega⟩⟩, hb⟩
  by_cases h64 : c = 64
  · have hv : (((s[p]'hp).toNat : Nat) : Int) = 64 := by rw [hc, h64]; rfl
    have hN2 : dateS x (s.data.toList.drop (p + 1)) = N := by
      rw [← hNc, nextS_cons, hfig, if_neg (by simp), if_neg h34, if_pos h64]
    have w4 : (p : Int) + 1 = ((p + 1 : Nat) : Int) := by omega
    have w5 : IntKind.i64.wrap ((p + 1 : Nat) : Int) = ((p + 1 : Nat) : Int) := IntWalk.i64_in _ (by omega)
    have w6 : IntKind.i64.wrap ((p : Int) + 13) = ((p + 13 : Nat) : Int) := by rw [show (p : Int) + 13 = ((p + 13 : Nat) : Int) by omega]; exact IntWalk.i64_in _ (by omega)
    unfold dateS quoD at hN2
    by_cases h1 : p + 1 < s.size
    · have hd1 := byte_drop s (p + 1) h1
      by_cases h2 : s[p + 1]'h1 = 34
      · rw [hd1, h2] at hN2
        simp only [List.head?_cons, if_pos, List.tail_cons] at hN2
        have hv2 : (((s[p + 1]'h1).toNat : Nat) : Int) = 34 := by rw [h2]; rfl
        have hQ := fun W => rquoted_any s (p + 1) h1 hs _ rfl W
        cases hq : qS (s.data.toList.drop (p + 1 + 1)) with
        | none =>
          rw [hq] at hN2 hQ
          simp only at hN2
          subst hN2
          have hD := fun W => hx.D ⟨#[]⟩ [] rfl (by simp) W
          refine (rone_date_stop s p hp hs w hv (p + 1) w4 w5 h1 (by omega) hv2 ⟨#[]⟩ (-1) _ _ _ w6 (by simp; omega) (Lib.hid hQ) (Lib.hid hD)).mono ?_
          rintro _ w' ⟨rfl, hb⟩
          exact ⟨out_bad rfl, hb⟩
        | some q =>
          rw [hq] at hN2 hQ
          simp only at hN2
          have hqs := qS_size _ _ hq
          have hl1 : (s.data.toList.drop (p + 1 + 1)).length = s.size - (p + 1 + 1) := by rw [List.length_drop, size_list]
          have hD := fun W => hx.D (bs q.1) q.1 rfl (by omega) W
          by_cases h11 : q.2 = 11
          · have h3 : ((((p + 1 + 1 + q.2 : Nat) : Int)) != ((p + 13 : Nat) : Int)) = false := by rw [show p + 1 + 1 + q.2 = p + 13 by omega]; simp
            by_cases hde : (x.D q.1).2 = 0
            · rw [if_neg (by simp [hde, h11])] at hN2
              subst hN2
              rw [hde] at hD
              refine (rone_date_ok s p hp hs w hv (p + 1) w4 w5 h1 (by omega) hv2 (bs q.1) _ _ _ w6 h3 (Lib.hid hQ) (Lib.hid hD)).mono ?_
              rintro _ w' ⟨rfl, hb⟩
              exact ⟨⟨_, _, _, _, _, _, rfl, fun _ => ⟨rfl, rfl, rfl, rfl, rfl, by show ((p + 1 + 1 + q.2 : Nat) : Int) = ((p + 13 : Nat) : Int); omega⟩⟩, hb⟩
            · rw [if_pos (.inl hde)] at hN2
              subst hN2
              refine (rone_date_bad s p hp hs w hv (p + 1) w4 w5 h1 (by omega) hv2 (bs q.1) _ _ _ _ w6 h3 (by simpa using hde) (Lib.hid hQ) (Lib.hid hD)).mono ?_
              rintro _ w' ⟨rfl, hb⟩
              exact ⟨out_bad rfl, hb⟩
          · rw [if_pos (.inr h11)] at hN2
            subst hN2
            refine (rone_date_stop s p hp hs w hv (p + 1) w4 w5 h1 (by omega) hv2 (bs q.1) _ _ _ _ w6 (by simp; omega) (Lib.hid hQ) (Lib.hid hD)).mono ?_
            rintro _ w' ⟨rfl, hb⟩
            exact ⟨out_bad rfl, hb⟩
      · rw [hd1] at hN2
        simp only [List.head?_cons, Option.some.injEq, if_neg h2] at hN2
        subst hN2
        have hv2 : ((((s[p + 1]'h1).toNat : Nat) : Int) != 34) = true := by
          simpa using fun e => h2 (UInt8.toNat_inj.1 (by rw [show (34 : UInt8).toNat = 34 from rfl]; omega))
        refine (rone_date_other s p hp hs w hv (p + 1) w4 w5 h1 (by omega) hv2).mono ?_
        rintro _ w' ⟨rfl, hb⟩
        exact ⟨out_bad rfl, hb⟩
    · rw [drop_end s (p + 1) (by omega)] at hN2
      simp only [List.head?_nil, reduceCtorEq, if_neg, not_false_eq_true] at hN2
      subst hN2
      refine (rone_date_short s p hp hs w hv (p + 1) w4 w5 (by omega)).mono ?_
      rintro _ w' ⟨rfl, hb⟩
      exact ⟨out_bad rfl, hb⟩
  have hf0 : decide (48 ≤ (s[p]'hp).toNat ∧ (s[p]'hp).toNat ≤ 57) = false := by rw [hc, fig_eq]; exact hfig
  have c34 : ((((s[p]'hp).toNat : Nat) : Int) == 34) = false := by
    rw [hc]; simpa using fun e => h34 (UInt8.toNat_inj.1 (by rw [show (34 : UInt8).toNat = 34 from rfl]; omega))
  have c64 : ((((s[p]'hp).toNat : Nat) : Int) == 64) = false := by
    rw [hc]; simpa using fun e => h64 (UInt8.toNat_inj.1 (by rw [show (64 : UInt8).toNat = 64 from rfl]; omega))
  have w4 : (p : Int) + 1 = ((p + 1 : Nat) : Int) := by omega
  have w5 : IntKind.i64.wrap ((p + 1 : Nat) : Int) = ((p + 1 : Nat) : Int) := IntWalk.i64_in _ (by omega)
  have hnm : nameB [c] = lets.contains c := by
    rw [nameB_cons, ← let_eq]
    simp only [List.length_singleton, List.all_cons, List.all_nil, Bool.and_true]
    cases h : letB c.toNat <;> simp [nmB, h]
  have hN1 := fun b hb W => rname_any (s.extract p (p + 1)) [c] (by rw [ext_one s p (p + 1) hp rfl, hc]) b hb W
  cases hlet : lets.contains c with
  | true =>
    have hN2 : nameS (s.data.toList.drop p) = N := by
      rw [← hNc, hd, nextS_cons, hfig, if_neg (by simp), if_neg h34, if_neg h64, hlet, if_pos rfl]
    have hrl := runS_le (lets ++ figs) (s.data.toList.drop p)
    have hX : ∀ (k k1 : Nat) (hk : k < s.size) (_ : k + 1 = k1) (b : Bool) (_ : (lets ++ figs).contains (s[k]'hk) = b) W, Calls Tryz.prog 23 #[.string (⟨#[120]⟩ ++ s.extract k k1)] W fun e w' => e = .returned (.bool b) ∧ W = w' := by
      intro k k1 hk hk1 b hb W
      refine rname_any _ [120, s[k]'hk] ?_ b ?_ W
      · rw [ByteArray.data_append, Array.toList_append, ext_one s k k1 hk hk1]; rfl
      · rw [nameB_cons, ← hb, ← nm_eq]
        simp [nmB, letB]
    unfold nameS at hN2
    by_cases h32 : 32 < runS (lets ++ figs) (s.data.toList.drop p)
    · rw [if_pos h32] at hN2
      subst hN2
      refine (rone_name_long s p hp hs w hf0 c34 c64 (p + 1) (by omega) (by omega) w4 w5 (Lib.hid (hN1 true (by rw [hnm, hlet]))) _ (runS (lets ++ figs) (s.data.toList.drop p)) rfl (by omega) (IntWalk.i64_in _ (by omega)) (Lib.hid hX) (by omega)).mono ?_
      rintro _ w' ⟨rfl, hb⟩
      exact ⟨out_bad rfl, hb⟩
    · rw [if_neg h32] at hN2
      subst hN2
      refine (rone_name_ok s p hp hs w hf0 c34 c64 (p + 1) (by omega) (by omega) w4 w5 (Lib.hid (hN1 true (by rw [hnm, hlet]))) _ (runS (lets ++ figs) (s.data.toList.drop p)) rfl (by omega) (IntWalk.i64_in _ (by omega)) (Lib.hid hX) (by omega)).mono ?_
      rintro _ w' ⟨rfl, hb⟩
      exact ⟨⟨_, _, _, _, _, _, rfl, fun _ => ⟨rfl, bs_of (ext_dt s p _ _ rfl), rfl, rfl, rfl, rfl⟩⟩, hb⟩
  | false =>
    have hN2 : signS (s.data.toList.drop p) = N := by
      rw [← hNc, hd, nextS_cons, hfig, if_neg (by simp), if_neg h34, if_neg h64, hlet, if_neg (by simp)]
    refine (rone_sign s p hp hs w hf0 c34 c64 (p + 1) (by omega) (by omega) w4 w5 (Lib.hid (hN1 false (by rw [hnm, hlet]))) N (Lib.hid hN2) (if N.e = 0 then ((p + N.n : Nat) : Int) else 0) (Lib.hid fun h => by rw [if_pos h]) (Lib.hid fun h => by rw [if_neg h])).mono ?_
    rintro _ w' ⟨rfl, hb⟩
    exact ⟨⟨_, _, _, _, _, _, rfl, fun h => ⟨rfl, rfl, rfl, rfl, rfl, by rw [if_pos h]⟩⟩, hb⟩

theorem toksA_white (x : Lx) (f a : Nat) (y : UInt8) (r : Bs) (acc : List Tk) (h : whites.contains y = true) : toksA x (f + 1) a (y :: r) acc = toksA x (f + 1) (a + 1) r acc := by
  have hr : runS whites (y :: r) = runS whites r + 1 := by rw [runS_cons, if_pos h]
  have hd : (y :: r).drop (runS whites (y :: r)) = r.drop (runS whites r) := by rw [hr]; rfl
  have ha : a + runS whites (y :: r) = a + 1 + runS whites r := by rw [hr]; omega
  rw [toksA, toksA, hd, ha]
theorem run_none {y : UInt8} {r : Bs} (h : whites.contains y = false) : runS whites (y :: r) = 0 := by rw [runS_cons, h]; rfl

set_option maxHeartbeats 8000000 in
set_option maxRecDepth 100000 in
theorem rtokens_any (x : Lx) (hx : RxOK x) (s : ByteArray) (l : Bs) (hl : s.data.toList = l) (hs : s.size ≤ 65536) (w : World) :
    Calls Tryz.prog 9 #[.string s] w fun e w' => (∃ A c, e = .returned (.tuple #[.slice A (toksS x l).l.length c, .int .i64 ((toksS x l).n : Int), .int .i64 (toksS x l).e]) ∧ TM w' A (toksS x l).l ∧ (toksS x l).l.length ≤ c ∧ c ≤ maxLen) ∧ Below w.heap.size w w' := by
  have hll : l.length = s.size := by rw [← hl, size_list]
  obtain ⟨i0, hi, hz0, hz1, hz2⟩ := info_parts infoTok
  obtain ⟨T, hT⟩ : ∃ T, toksS x l = T := ⟨_, rfl⟩
  rw [hT]
  have hT2 : toksA x (l.length + 1) 0 l [] = T := by rw [← hT]; unfold toksS; rw [if_neg (by omega)]
  have HWh := Lib.hid (fun (c : UInt8) (b : Bool) (hb : whites.contains c = b) W => white_any c.toNat b (by rw [whi_eq, hb]) W)
  have HX := Lib.hid hx
  have Hl := Lib.hid hl
  have HT2 := Lib.hid hT2
  have hbig : ¬ (65536 : Int) < (s.size : Int) := by omega
  clear hT hT2 hl hx
  go_enter Tryz.func9, Tryz.ntmps9
  go_wp2_with fail
  go_loopw [5, 6] (fun out at_ wr => ∃ (f p : Nat) (acc : List Tk), at_ = .int .i64 (p : Int) ∧ p ≤ s.size ∧ acc.length ≤ p ∧ Hid (toksA x f p (s.data.toList.drop p) acc = T ∧ s.size < p + f) ∧ wr.ownsRow w.heap.size 38 6 out acc.length (cellsL acc) ∧ Below w.heap.size w wr) (fun _ at_ _ => s.size - (intOf at_).toNat)
  case atStart => exact ⟨l.length + 1, 0, [], rfl, by omega, by simp, Lib.hid (by rw [Hl.out, List.drop_zero]; exact ⟨HT2.out, by omega⟩), ⟨rfl, .inr ⟨w.heap.size, 0, #[], rfl, Nat.le_refl _, heap_alloc_new w _, Nat.le_refl _, by unfold maxLen; omega, rfl, rfl⟩⟩, by (repeat' (first | (with_reducible exact Below.refl _ _) | (with_reducible assumption) | (with_reducible refine balloc ?_ _) | (with_reducible refine Below.drew ?_) | (with_reducible refine bset ?_ ?_ _) | (with_reducible refine bstep ?_ (by with_reducible assumption)) | (with_reducible refine bturn ?_ (by with_reducible assumption) ?_) | go_size))⟩
  case round =>
    obtain ⟨f, p, acc, rfl, hp, hal, HQ, hown, hbr⟩ := hrel
    have hsz := hbr.size
    by_cases hlt : p < s.size
    · have hcr := byte_drop s p hlt
      obtain ⟨f', hf⟩ : ∃ f', f = f' + 1 := ⟨f - 1, by have := HQ.out; omega⟩
      have hstep := HQ.out.1
      rw [hf] at hstep
      cases hwh : whites.contains (s[p]'hlt) with
      | true =>
        rw [hcr, toksA_white x f' p _ _ acc hwh] at hstep
        obtain ⟨p1, hp1⟩ : ∃ p1, p + 1 = p1 := ⟨_, rfl⟩
        rw [hp1] at hstep
        have w4 : (p : Int) + 1 = (p1 : Int) := by omega
        have w5 : IntKind.i64.wrap (p1 : Int) = (p1 : Int) := IntWalk.i64_in _ (by omega)
        have HQ2 : Hid (toksA x (f' + 1) p1 (s.data.toList.drop p1) acc = T ∧ s.size < p1 + (f' + 1)) := Lib.hid ⟨hstep, by have := HQ.out; omega⟩
        have HP := Lib.hid (show p1 ≤ s.size ∧ acc.length ≤ p1 ∧ p < p1 from ⟨by omega, by omega, by omega⟩)
        have HB := Lib.hid hwh
        have Hown := Lib.hid hown
        clear hstep hcr hwh hp1 hf hown
        go_wp2_with fail
        refine (HWh.out _ true HB.out _).mono ?_
        rintro _ _ ⟨rfl, rfl⟩
        go_wp2_with fail
        go_roundw
        case rel => exact ⟨f' + 1, p1, acc, by go_num, HP.out.1, HP.out.2.1, HQ2, Hown.out, hbr⟩
        case measure => have := HP.out; simp [intOf]; omega
      | false =>
        have HB := Lib.hid hwh
        obtain ⟨c, r, hcr2⟩ : ∃ c r, s.data.toList.drop p = c :: r := ⟨_, _, hcr⟩
        have hr0 : runS whites (s.data.toList.drop p) = 0 := by rw [hcr]; exact run_none hwh
        have hd : (s.data.toList.drop p).drop (runS whites (s.data.toList.drop p)) = c :: r := by rw [hr0]; exact hcr2
        obtain ⟨N, hN⟩ : ∃ N, nextS x (c :: r) = N := ⟨_, rfl⟩
        have HN := Lib.hid (fun W => rone_any x HX.out s p hlt (by omega) N (by rw [hcr2]; exact hN) W)
        have hcl : (c :: r).length = s.size - p := by rw [← hcr2, List.length_drop, size_list]
        by_cases he : N.e = 0
        · have hbd := next_bd x (c :: r) (by rw [hN]; exact he)
          rw [hN] at hbd
          rw [toksA_go hd (by rw [hN]; exact he), hN, hr0, Nat.add_zero] at hstep
          obtain ⟨n, hn⟩ : ∃ n, N.n = n := ⟨_, rfl⟩
          rw [hn] at hbd hstep
          have hdd : (c :: r).drop n = s.data.toList.drop (p + n) := by rw [← hcr2, List.drop_drop]
          rw [hdd] at hstep
          obtain ⟨p2, hp2⟩ : ∃ p2, p + n = p2 := ⟨_, rfl⟩
          rw [hp2] at hstep
          obtain ⟨t2, ht2⟩ : ∃ t2 : Tk, { N.t with a := p } = t2 := ⟨_, rfl⟩
          rw [ht2] at hstep
          have hc2 : cellsL acc ++ [.int .i64 N.t.k, .int .i64 (p : Int), .string (bs N.t.t), .int .i64 N.t.n, .int .i64 N.t.s, .int .i64 N.t.m] = cellsL (acc ++ [t2]) := by rw [cellsL_app, ← ht2]; rfl
          have HQ2 : Hid (toksA x f' p2 (s.data.toList.drop p2) (acc ++ [t2]) = T ∧ s.size < p2 + f') := Lib.hid ⟨hstep, by have := HQ.out; omega⟩
          have Hpp : Hid (p < p2 ∧ p2 ≤ s.size ∧ (acc ++ [t2]).length ≤ p2) := Lib.hid ⟨by omega, by omega, by rw [List.length_append, List.length_singleton]; omega⟩
          have HC2 := Lib.hid hc2
          have Hown := Lib.hid hown
          have HEn : Hid (((p + N.n : Nat) : Int) = (p2 : Int)) := Lib.hid (by rw [hn, hp2])
          have HE := Lib.hid he
          clear hstep hdd hbd hd hcr hf hwh ht2 hc2 hown hN hn hcl hp2 hcr2 hr0 he
          go_wp2_with fail
          refine (HWh.out _ false HB.out _).mono ?_
          rintro _ _ ⟨rfl, rfl⟩
          go_wp2_with fail
          refine (HN.out _).mono ?_
          rintro _ w2 ⟨⟨k0, t0, n0, s0, m0, ev, rfl, hout⟩, hb2⟩
          obtain ⟨rfl, rfl, rfl, rfl, rfl, hev⟩ := hout HE.out
          obtain rfl : ev = (p2 : Int) := hev.trans HEn.out
          clear hev hout
          have hown2 := own_below (own_below Hown.out hb2) (show Below w2.heap.size w2 (w2.alloc (.cells #[.int .i64 N.t.k, .int .i64 (p : Int), .string (bs N.t.t), .int .i64 N.t.n, .int .i64 N.t.s, .int .i64 N.t.m] 38)) by (repeat' (first | (with_reducible exact Below.refl _ _) | (with_reducible assumption) | (with_reducible refine balloc ?_ _) | (with_reducible refine Below.drew ?_) | (with_reducible refine bset ?_ ?_ _) | (with_reducible refine bstep ?_ (by with_reducible assumption)) | (with_reducible refine bturn ?_ (by with_reducible assumption) ?_) | go_size)))
          have hez : (N.e != 0) = false := by rw [HE.out]; rfl
          go_wp2_with (at_builtin; refine wpList_append_own _ rfl _ _ 22 rfl w.heap.size 38 i0 (.agg #[.int .i64 0, .int .i64 0, .string ⟨#[]⟩, .int .i64 0, .int .i64 0, .int .i64 0]) 6 56 Tryz.underlying22 hi hz0 hz1 hz2 rfl (by decide) _ _ _ rfl (hown2.alloc _) ⟨w2.heap.size + 1, 0, none⟩ 1 1 [.int .i64 N.t.k, .int .i64 (p : Int), .string (bs N.t.t), .int .i64 N.t.n, .int .i64 N.t.s, .int .i64 N.t.m] rfl rfl ?c1 ?c2 ?c3 ?c4 ?c5 ?_)
          case c1 =>
            intro j u hj
            match j, hj with
            | 0, hj => simp at hj; subst hj; simp [Addr.add]
            | 1, hj => simp at hj; subst hj; simp [Addr.add]
            | 2, hj => simp at hj; subst hj; simp [Addr.add]
            | 3, hj => simp at hj; subst hj; simp [Addr.add]
            | 4, hj => simp at hj; subst hj; simp [Addr.add]
            | 5, hj => simp at hj; subst hj; simp [Addr.add]
            | j + 6, hj => simp at hj
          case c2 =>
            intro u hu
            simp only [List.mem_cons, List.not_mem_nil, or_false] at hu
            rcases hu with h | h | h | h | h | h <;> subst h <;> rfl
          case c3 => unfold maxLen; omega
          case c4 => omega
          case c5 => have := hb2.size; simp; omega
          intro v' w3 hown' hgrow _
          rw [HC2.out] at hown'
          have hb3 : Below w.heap.size w w3 := (Below.alloc (Below.alloc (hbr.trans (hb2.mono hsz)) (by have := hb2.size; omega) _) (by have := hb2.size; simp; omega) _).grown hgrow (by have := hb2.size; simp; omega) (fun k hk => (Hown.out.lt k hk).1)
          have Hown' := Lib.hid hown'
          clear hown' hgrow hown2
          go_wp2_with fail
          go_roundw
          case rel => exact ⟨f', p2, acc ++ [t2], rfl, Hpp.out.2.1, Hpp.out.2.2, HQ2, by rw [List.length_append, List.length_singleton]; exact Hown'.out, hb3⟩
          case measure => have := Hpp.out.1; simp [intOf]; omega
        · rw [toksA_bad hd (by rw [hN]; exact he), hN, hr0, Nat.add_zero] at hstep
          have HE := Lib.hid hstep
          have hez : (N.e != 0) = true := by simpa using he
          clear hstep hd hcr hf hwh hN hcl hcr2 hr0
          go_wp2_with fail
          refine (HWh.out _ false HB.out _).mono ?_
          rintro _ _ ⟨rfl, rfl⟩
          go_wp2_with fail
          refine (HN.out _).mono ?_
          rintro _ w2 ⟨⟨k0, t0, n0, s0, m0, ev, rfl, hout⟩, hb2⟩
          clear hout
          go_wp2_with fail
          go_returns
          exact ⟨⟨none, 0, by rw [← HE.out]; rfl, by rw [← HE.out]; exact TM.nil _ _, by rw [← HE.out]; exact Nat.le_refl _, by unfold maxLen; omega⟩, (hbr.trans (hb2.mono hsz)).alloc (by have := hb2.size; omega) _⟩
    · obtain rfl : p = s.size := by omega
      have hd : (s.data.toList.drop s.size).drop (runS whites (s.data.toList.drop s.size)) = [] := by rw [drop_end s _ (Nat.le_refl _)]; rfl
      obtain ⟨f', hf⟩ : ∃ f', f = f' + 1 := ⟨f - 1, by have := HQ.out; omega⟩
      have hstep := HQ.out.1
      rw [hf, toksA_end hd] at hstep
      have HE := Lib.hid hstep
      obtain ⟨A, cp, hv, hTM, hcap⟩ := own_tm hown rfl
      subst hv
      have HTM := Lib.hid hTM
      have HCap := Lib.hid hcap
      clear hd hf hstep hTM hown hcap
      go_wp2_with fail
      go_returns
      exact ⟨⟨A, cp, by rw [← HE.out]; rfl, by rw [← HE.out]; exact HTM.out, by rw [← HE.out]; exact HCap.out⟩, hbr⟩
end Go.Proofs.YtambpkkllgppdaaGreatDoor
