/- Two contracts of one call at one world give the same answer. lex.one at any token, at this program. Tokens that are written are read as they were, plainly. What reading a number or a day says of it: it is sound, and its own text is read as it. What is read can be written, and is no longer than three times what was read. What the tokens of a text are: sound, and where they stand. The walks of expr.NewParser and of expr.Parser's Value. The tokens of what is written for tests. The walk of value.Sound, and what it says. Tests that are written are read as they were, plainly. What value.Sound says, in plain words. The walk of expr.Parser's Value. Printed by genval.py. The walk of expr.Parser's Value, in all its ways. The walks of the methods of unary.cell: literal, ranked. -/
import Derived.Calls
import Derived.Test.YtkkeplmaphcblaaGreatDoorJ1
import Derived.Test.YtkkeplmaphcblaaGreatDoorJ19
import Derived.Test.YtkkeplmaphcblaaGreatDoorJ21
import Derived.Test.YtkkeplmaphcblaaGreatDoorJ16
import Derived.Test.YtkkeplmaphcblaaGreatDoorJ10
import Derived.Test.YtkkeplmaphcblaaGreatDoorJ15
import Derived.Test.YtkkeplmaphcblaaGreatDoorJ6
import Derived.Test.YtkkeplmaphcblaaGreatDoorJ3
import Derived.Test.YtkkeplmaphcblaaGreatDoorJ7
namespace Go.Proofs.YtkkeplmaphcblaaGreatDoor

theorem calls_det {P : Program} {f : FuncId} {args : Array Value} {w : World} {v1 v2 : Value} {Q1 Q2 : World → Prop} (hi : P.inits.idxOf? f = none)
    (h1 : Calls P f args w fun e w' => e = .returned v1 ∧ Q1 w') (h2 : Calls P f args w fun e w' => e = .returned v2 ∧ Q2 w') : v1 = v2 := by
  obtain ⟨e1, w1, fr1, ⟨rfl, _⟩, s1, g1, l1⟩ := h1 []
  obtain ⟨e2, w2, fr2, ⟨rfl, _⟩, s2, g2, l2⟩ := h2 []
  have d1 := step_leave_done l1 (by rw [g1]; exact hi)
  have d2 := step_leave_done l2 (by rw [g2]; exact hi)
  obtain ⟨n1, r1⟩ := s1
  obtain ⟨n2, r2⟩ := s2
  have key : ∀ (a b : Nat) (fr fr' : Frame) (u u' : World) (x x' : Value), runN P a (lone (Frame.enter P f args .normal) [] w) = .next (lone fr [] u) → runN P b (lone (Frame.enter P f args .normal) [] w) = .next (lone fr' [] u') → step P (lone fr [] u) = .ended (.done x) u → step P (lone fr' [] u') = .ended (.done x') u' → a ≤ b → x = x' := by
    intro a b fr fr' u u' x x' ra rb da db hab
    obtain ⟨k, rfl⟩ : ∃ k, b = a + k := ⟨b - a, by omega⟩
    rw [runN_add, ra] at rb
    cases k with
    | zero =>
      have h3 : lone fr [] u = lone fr' [] u' := by simpa [runN] using rb
      rw [h3] at da
      rw [da] at db
      injection db with h4 h5
      injection h4
    | succ k =>
      simp [runN, da] at rb
  rcases Nat.le_total n1 n2 with h | h
  · exact key n1 n2 fr1 fr2 w1 w2 v1 v2 r1 r2 d1 d2 h
  · exact (key n2 n1 fr2 fr1 w2 w1 v2 v1 r2 r1 d2 d1 h).symm
end Go.Proofs.YtkkeplmaphcblaaGreatDoor

namespace Go.Proofs.YtkkeplmaphcblaaGreatDoor
open Go.RowKit

/-- A number as a text. -/
def dT (n s : Int) : Bs × Int := if soundS n s = true then (textS (decide (n < 0)) (mag n).toNat s.toNat, 0) else ([], 2)
theorem mag_nat (n : Int) : mag n = ((mag n).toNat : Int) := by unfold mag; split <;> omega
theorem dtext (n s : Int) (hn : I64 n) (hs : I64 s) (w : World) (htab : Lib.TabIs Tryz.prog w "internal/strconv.uint64pow10" .u64 Lib.pow10Tab) :
    Calls Tryz.prog 139 #[.agg #[.int .i64 n, .int .i64 s]] w fun e w' => e = .returned (.tuple #[.string (bs (dT n s).1), .int .i64 (dT n s).2]) ∧ Below w.heap.size w w' := by
  unfold dT
  by_cases h : soundS n s = true
  · rw [if_pos h]
    obtain ⟨b1, b2, _⟩ := sound_bd h
    exact text_any n s (mag n).toNat s.toNat hn (by omega) h (mag_nat n) _ rfl w htab
  · rw [if_neg h]
    exact text_form n s hn hs h w
theorem textU_len {N sc : Nat} (hN : N < 1000000000000) (hs : sc ≤ 6) : (textU N sc).length ≤ 20 := by
  have hW : N / 10 ^ sc < 10 ^ 12 := Nat.lt_of_le_of_lt (Nat.div_le_self _ _) (by omega)
  have hWd := nDigits_le (by decide) hW
  unfold textU
  split
  · rename_i h0; subst h0; simp only [Nat.pow_zero, Nat.div_one] at hWd; rw [Lib.decDigits_length]; omega
  · rw [List.length_append, Lib.decDigits_length, List.length_cons, pd_length]; omega
theorem dT_len (n s : Int) : (dT n s).1.length ≤ 21 := by
  unfold dT
  split
  · rename_i h
    obtain ⟨b1, b2, b3, b4, _⟩ := sound_bd h
    have hm := mag_bd b3 b4
    have hn := mag_nat n
    have h1 := textU_len (N := (mag n).toNat) (sc := s.toNat) (by omega) (by omega)
    show (textS _ _ _).length ≤ 21
    unfold textS
    split
    · rw [List.length_cons]; omega
    · omega
  · simp
end Go.Proofs.YtkkeplmaphcblaaGreatDoor
namespace Go.Proofs.YtkkeplmaphcblaaGreatDoor.Days
open Go.RowKit
theorem texts_len (n : Int) : ∃ (l : Bs) (e : Int), l.length ≤ 10 ∧ (∀ w, Lib.TabIs Tryz.prog w "internal/strconv.uint64pow10" .u64 Lib.pow10Tab → Calls Tryz.prog 142 #[.int .i64 n] w fun x w' => x = .returned (.tuple #[.string (bs l), .int .i64 e]) ∧ Below w.heap.size w w') ∧ (∀ _ : World, True) := by
  by_cases h : n < 0 ∨ 3652058 < n
  · refine ⟨[], 3, by simp, fun w _ => (text_bad n h w).mono ?_, fun _ => trivial⟩
    rintro x w' ⟨rfl, rfl⟩
    exact ⟨rfl, Below.refl _ _⟩
  · obtain ⟨y, m, a, b, c, d, e, f, g⟩ := date_of n (by omega) (by omega)
    exact ⟨_, 0, Nat.le_of_eq (textL_length _ _ _), fun w ht => text_ok n y m (by omega) (by omega) a b c d e f g w ht, fun _ => trivial⟩
end Go.Proofs.YtkkeplmaphcblaaGreatDoor.Days
namespace Go.Proofs.YtkkeplmaphcblaaGreatDoor
open Go.RowKit

/-- A day as a text. -/
noncomputable def yT (n : Int) : Bs × Int := (Classical.choose (Days.texts_len n), Classical.choose (Classical.choose_spec (Days.texts_len n)))
theorem yT_spec (n : Int) : (yT n).1.length ≤ 10 ∧ (∀ w, Lib.TabIs Tryz.prog w "internal/strconv.uint64pow10" .u64 Lib.pow10Tab → Calls Tryz.prog 142 #[.int .i64 n] w fun x w' => x = .returned (.tuple #[.string (bs (yT n).1), .int .i64 (yT n).2]) ∧ Below w.heap.size w w') ∧ (∀ _ : World, True) :=
  Classical.choose_spec (Classical.choose_spec (Days.texts_len n))

/-- What is written for a token, before it is read back. -/
noncomputable def outS (t : Ti) : Option Bs :=
  if t.k = 1 then (if ¬ t.n < 0 ∧ (dT t.n t.s).2 = 0 ∧ t.t = [] ∧ t.m = 0 then some (dT t.n t.s).1 else none)
  else if t.k = 2 then (if t.n = 0 ∧ t.s = 0 ∧ t.m = 0 then some (34 :: (escB t.t ++ [34])) else none)
  else if t.k = 3 then (if (yT t.m).2 = 0 ∧ t.t = [] ∧ t.n = 0 ∧ t.s = 0 then some (64 :: 34 :: ((yT t.m).1 ++ [34])) else none)
  else if t.k = 4 ∨ t.k = 5 then (if t.n = 0 ∧ t.s = 0 ∧ t.m = 0 then some t.t else none)
  else none
def okT (N : Nx) (o : Bs) (t : Ti) : Prop := N.e = 0 ∧ N.n = o.length ∧ N.t.k = t.k ∧ N.t.t = t.t ∧ N.t.n = t.n ∧ N.t.s = t.s ∧ N.t.m = t.m
open Classical in
noncomputable def wrS (x : Lx) (t : Ti) : Option Bs :=
  match outS t with
  | none => none
  | some o => if okT (nextS x (o ++ [32])) o t then some o else none

theorem bs_toList (l : Bs) : (bs l).toList = l := by rw [Lib.toList_data]; rfl
theorem tkeq_iff (k a n s m k' a' n' s' m' : Int) (l l' : Bs) : tkeq k a (bs l) n s m k' a' (bs l') n' s' m' = true ↔ k = k' ∧ a = a' ∧ l = l' ∧ n = n' ∧ s = s' ∧ m = m' := by
  unfold tkeq
  rw [bs_toList, bs_toList]
  simp []
open Classical in
/-- The answer's second part. -/
theorem ok_eq (N : Nx) (o : Bs) (t : Ti) (c : ByteArray) (hc : c.size = o.length) :
    (N.e == 0 && ((N.n : Int) == (c.size : Int) && tkeq N.t.k t.a (bs N.t.t) N.t.n N.t.s N.t.m t.k t.a (bs t.t) t.n t.s t.m)) = decide (okT N o t) := by
  rw [hc]
  by_cases h : okT N o t
  · obtain ⟨h1, h2, h3, h4, h5, h6, h7⟩ := h
    rw [decide_eq_true (show okT N o t from ⟨h1, h2, h3, h4, h5, h6, h7⟩), h1, h2, (tkeq_iff _ _ _ _ _ _ _ _ _ _ _ _).2 ⟨h3, rfl, h4, h5, h6, h7⟩]
    simp
  · rw [decide_eq_false h, Bool.eq_false_iff]
    intro hh
    simp only [Bool.and_eq_true, beq_iff_eq] at hh
    obtain ⟨h1, h2, h3⟩ := hh
    obtain ⟨g1, _, g2, g3, g4, g5⟩ := (tkeq_iff _ _ _ _ _ _ _ _ _ _ _ _).1 h3
    exact h ⟨h1, by omega, g1, g2, g3, g4, g5⟩
theorem bs_app (a b : Bs) : bs a ++ bs b = bs (a ++ b) := by
  apply ByteArray.ext
  apply Array.toList_inj.1
  rw [ByteArray.data_append, Array.toList_append]
  rfl

end Go.Proofs.YtkkeplmaphcblaaGreatDoor

namespace Go.Proofs.YtkkeplmaphcblaaGreatDoor

theorem qS_cut : ∀ (k : Nat) (l m : Bs) (p : Bs × Nat), l.length ≤ k → qS (l ++ m) = some p → p.2 ≤ l.length → qS l = some p
  | _, [], m, p, _, h, hp => by
    have hp0 : p.2 = 0 := by simpa using hp
    have := qS_pos _ m p (Nat.le_refl _) h
    omega
  | 0, c :: r, _, _, hk, _, _ => by simp at hk
  | k + 1, c :: r, m, p, hk, h, hp => by
    rw [List.cons_append, qS_cons] at h
    rw [qS_cons]
    rw [List.length_cons] at hk hp
    by_cases h1 : c = 34
    · rw [if_pos h1] at h ⊢
      exact h
    · rw [if_neg h1] at h ⊢
      by_cases h2 : c = 92
      · rw [if_pos h2] at h ⊢
        cases r with
        | nil =>
          exfalso
          cases m with
          | nil => cases h
          | cons d m2 =>
            simp only [List.nil_append] at h
            by_cases h3 : d = 34 ∨ d = 92
            · rw [if_pos h3] at h
              cases hq : qS m2 with
              | none => rw [hq] at h; cases h
              | some q => rw [hq] at h; cases h; simp at hp
            · rw [if_neg h3] at h; cases h
        | cons d r2 =>
          simp only [List.cons_append] at h ⊢
          rw [List.length_cons] at hk hp
          by_cases h3 : d = 34 ∨ d = 92
          · rw [if_pos h3] at h ⊢
            cases hq : qS (r2 ++ m) with
            | none => rw [hq] at h; cases h
            | some q =>
              rw [hq] at h
              cases h
              simp only at hp
              rw [qS_cut k r2 m q (by omega) hq (by omega)]
              rfl
          · rw [if_neg h3] at h; cases h
      · rw [if_neg h2] at h ⊢
        cases hq : qS (r ++ m) with
        | none => rw [hq] at h; cases h
        | some q =>
          rw [hq] at h
          cases h
          simp only at hp
          rw [qS_cut k r m q (by omega) hq (by omega)]
          rfl
where
  qS_pos : ∀ (k : Nat) (l : Bs) (p : Bs × Nat), l.length ≤ k → qS l = some p → 1 ≤ p.2 := fun k l p hk h => (qS_app k l [] p hk h).2.2

/-- A token that was read up to its end does not hang on the blank. -/
theorem next_cut (x : Lx) (o : Bs) (he : (nextS x (o ++ [32])).e = 0) (hn : (nextS x (o ++ [32])).n = o.length) (ho : o ≠ []) : nextS x o = nextS x (o ++ [32]) := by
  match o, ho with
  | c :: r, _ =>
    rw [List.cons_append] at he hn ⊢
    unfold nextS at he hn ⊢
    simp only at he hn ⊢
    by_cases h1 : figs.contains c = true
    · rw [if_pos h1, if_pos h1]
      exact (num_app x (c :: r) []).symm
    · rw [if_neg h1] at he hn ⊢
      rw [if_neg h1]
      by_cases h2 : c = 34
      · rw [if_pos h2] at he hn ⊢
        rw [if_pos h2]
        unfold strS at he hn ⊢
        cases hq : qS (r ++ [32]) with
        | none => rw [hq] at he; cases he
        | some p =>
          rw [hq] at he hn
          simp only at he hn
          split at he
          · cases he
          · rename_i hc
            rw [if_neg hc] at hn
            simp only [List.length_cons] at hn
            rw [qS_cut r.length r [32] p (Nat.le_refl _) hq (by omega)]
      · rw [if_neg h2] at he hn ⊢
        rw [if_neg h2]
        by_cases h3 : c = 64
        · rw [if_pos h3] at he hn ⊢
          rw [if_pos h3]
          unfold dateS at he hn ⊢
          cases hq : quoD (r ++ [32]) with
          | none => rw [hq] at he; cases he
          | some p =>
            rw [hq] at he hn
            simp only at he hn
            split at he
            · cases he
            · rename_i hc
              rw [if_neg hc] at hn
              simp only [List.length_cons] at hn
              have h11 : p.2 = 11 := Classical.byContradiction fun hn => hc (.inr hn)
              have hq2 : quoD r = some p := by
                unfold quoD at hq ⊢
                match r with
                | [] => simp at hn
                | d :: r2 =>
                  by_cases hd : (d :: r2).head? = some 34
                  · have hd2 : (d :: r2 ++ [32]).head? = some 34 := hd
                    rw [if_pos hd2] at hq
                    rw [if_pos hd]
                    rw [List.length_cons] at hn
                    exact qS_cut r2.length r2 [32] p (Nat.le_refl _) hq (by omega)
                  · have hd2 : ¬ (d :: r2 ++ [32]).head? = some 34 := hd
                    rw [if_neg hd2] at hq
                    cases hq
              rw [hq2]
        · rw [if_neg h3, if_neg h3]
          by_cases h4 : lets.contains c = true
          · rw [if_pos h4, if_pos h4]
            exact (name_app (c :: r) []).symm
          · rw [if_neg h4, if_neg h4]
            exact (sign_app (c :: r) [] (by simp)).symm

theorem next_white (x : Lx) (c : UInt8) (r : Bs) (h : whites.contains c = true) : ¬ (nextS x (c :: r)).e = 0 := by
  have hc : c = 32 ∨ c = 9 ∨ c = 13 ∨ c = 10 := by
    rw [List.contains_iff_mem] at h
    simpa [whites] using h
  have hb : nextS x (c :: r) = signS (c :: r) := by
    rcases hc with rfl | rfl | rfl | rfl <;> rfl
  rw [hb]
  have : signS (c :: r) = bad := by
    unfold signS
    rw [List.find?_eq_none.2]
    intro g hg
    simp only [signsL, List.mem_cons, List.not_mem_nil, or_false] at hg
    rcases hc with rfl | rfl | rfl | rfl <;> rcases hg with h | h | h | h | h | h | h | h | h | h | h | h | h | h | h | h <;> subst h <;> simp [List.isPrefixOf]
  rw [this]
  decide
/-- What a text that was written for a token is. -/
theorem wr_next {x : Lx} {t : Ti} {o : Bs} (h : wrS x t = some o) : o ≠ [] ∧ runS whites o = 0 ∧ okT (nextS x o) o t := by
  unfold wrS at h
  cases ho : outS t with
  | none => rw [ho] at h; cases h
  | some o' =>
    rw [ho] at h
    simp only at h
    split at h
    · rename_i hk
      cases h
      have hne : o ≠ [] := by
        rintro rfl
        exact next_white x 32 [] rfl hk.1
      have hcut := next_cut x o hk.1 hk.2.1 hne
      refine ⟨hne, ?_, by rw [hcut]; exact hk⟩
      match o, hne with
      | c :: r, _ =>
        rw [runS_cons]
        cases hw : whites.contains c with
        | true => exact absurd hk.1 (by rw [List.cons_append]; exact next_white x c _ hw)
        | false => rfl
    · cases h

/-- The same token, wherever it stands. -/
def sameT (t : Ti) (u : Tk) : Prop := u.k = t.k ∧ u.t = t.t ∧ u.n = t.n ∧ u.s = t.s ∧ u.m = t.m
theorem back_toks (x : Lx) : ∀ (L : List Ti) (P : List Bs) (pre : Bs) (f a : Nat) (acc : List Tk), allS (L.map (wrS x)) = some P → runS whites pre = pre.length → (pre ++ joinB P).length < f →
    ∃ T : List Tk, toksA x f a (pre ++ joinB P) acc = ⟨acc ++ T, 0, 0⟩ ∧ T.length = L.length ∧ ∀ (i : Nat) (t : Ti) (u : Tk), L[i]? = some t → T[i]? = some u → sameT t u
  | [], P, pre, f, a, acc, hP, hpre, hf => by
    cases hP
    obtain ⟨g, rfl⟩ : ∃ g, f = g + 1 := ⟨f - 1, by omega⟩
    refine ⟨[], ?_, rfl, fun i t u h => by simp at h⟩
    rw [List.append_nil]
    apply toksA_end
    show (pre ++ []).drop (runS whites (pre ++ [])) = []
    rw [List.append_nil, hpre]
    simp
  | t :: L, P, pre, f, a, acc, hP, hpre, hf => by
    rw [List.map_cons] at hP
    cases hw : wrS x t with
    | none => rw [hw] at hP; cases hP
    | some o =>
      rw [hw] at hP
      have hP2 : (allS (L.map (wrS x))).map (o :: ·) = some P := hP
      cases hQ : allS (L.map (wrS x)) with
      | none => rw [hQ] at hP2; cases hP2
      | some Q =>
        rw [hQ] at hP2
        cases hP2
        obtain ⟨hne, h0, hok⟩ := wr_next hw
        obtain ⟨e1, e2, e3, e4, e5, e6, e7⟩ := hok
        obtain ⟨g, rfl⟩ : ∃ g, f = g + 1 := ⟨f - 1, by omega⟩
        -- what stands behind
        obtain ⟨M, hM, hnx⟩ : ∃ M, joinB (o :: Q) = o ++ M ∧ ((Q = [] ∧ M = []) ∨ (Q ≠ [] ∧ M = [32] ++ joinB Q)) := by
          cases Q with
          | nil => exact ⟨[], by simp [joinB], .inl ⟨rfl, rfl⟩⟩
          | cons u R => exact ⟨32 :: joinB (u :: R), rfl, .inr ⟨by simp, rfl⟩⟩
        have hnext : nextS x (o ++ M) = nextS x o := by
          rcases hnx with ⟨_, rfl⟩ | ⟨_, rfl⟩
          · rw [List.append_nil]
          · exact (next_app x o (joinB Q) e1).1
        have hwl : runS whites (o ++ M) = 0 := by
          match o, hne with
          | c :: r, _ =>
            rw [runS_cons] at h0
            rw [List.cons_append, runS_cons]
            split at h0
            · omega
            · rename_i hc; rw [if_neg hc]
        have hr : runS whites (pre ++ (o ++ M)) = pre.length := by rw [runS_all _ _ _ hpre, hwl, Nat.add_zero]
        have hd : (pre ++ (o ++ M)).drop (runS whites (pre ++ (o ++ M))) = o ++ M := by rw [hr]; simp
        rw [hM] at hf ⊢
        obtain ⟨c, r, ho⟩ : ∃ c r, o = c :: r := by
          cases o with
          | nil => exact absurd rfl hne
          | cons c r => exact ⟨c, r, rfl⟩
        have hcons : o ++ M = c :: (r ++ M) := by rw [ho]; rfl
        have hgo := toksA_go (x := x) (f := g) (a := a) (l := pre ++ (o ++ M)) (acc := acc) (c := c) (r := r ++ M) (by rw [hd, hcons]) (by rw [← hcons, hnext]; exact e1)
        rw [← hcons, hnext, hr, e2] at hgo
        have hdrop : (o ++ M).drop o.length = M := by simp
        rw [hdrop] at hgo
        have hlen : (pre ++ (o ++ M)).length = pre.length + (o.length + M.length) := by simp
        have hol : 1 ≤ o.length := by rw [ho]; simp
        rcases hnx with ⟨rfl, rfl⟩ | ⟨hQn, rfl⟩
        · have hL0 : L.length = 0 := by have := allS_len hQ; simp at this; omega
          obtain rfl := List.eq_nil_of_length_eq_zero hL0
          obtain ⟨g2, rfl⟩ : ∃ g2, g = g2 + 1 := ⟨g - 1, by rw [hlen] at hf; omega⟩
          refine ⟨[{ (nextS x o).t with a := a + pre.length }], ?_, rfl, ?_⟩
          · rw [hgo]
            exact toksA_end (by simp)
          · intro i t' u hi hu
            cases i with
            | zero => cases hi; cases hu; exact ⟨e3, e4, e5, e6, e7⟩
            | succ i => simp at hi
        · obtain ⟨T, hT, hl, hs⟩ := back_toks x L Q [32] g (a + pre.length + o.length) (acc ++ [{ (nextS x o).t with a := a + pre.length }]) hQ rfl (by rw [hlen] at hf; omega)
          refine ⟨{ (nextS x o).t with a := a + pre.length } :: T, ?_, by rw [List.length_cons, List.length_cons, hl], ?_⟩
          · rw [hgo, hT]
            simp
          · intro i t' u hi hu
            cases i with
            | zero => cases hi; cases hu; exact ⟨e3, e4, e5, e6, e7⟩
            | succ i => exact hs i t' u hi hu

theorem back_all (x : Lx) (L : List Ti) (P : List Bs) (hP : allS (L.map (wrS x)) = some P) (hl : (joinB P).length ≤ 65536) :
    (toksS x (joinB P)).e = 0 ∧ (toksS x (joinB P)).l.length = L.length ∧ ∀ (i : Nat) (t : Ti) (u : Tk), L[i]? = some t → (toksS x (joinB P)).l[i]? = some u → sameT t u := by
  obtain ⟨T, h1, h2, h3⟩ := back_toks x L P [] ((joinB P).length + 1) 0 [] hP rfl (by simp)
  have h4 : toksS x (joinB P) = ⟨T, 0, 0⟩ := by
    unfold toksS
    rw [if_neg (by omega)]
    simpa using h1
  rw [h4]
  exact ⟨rfl, h2, h3⟩
end Go.Proofs.YtkkeplmaphcblaaGreatDoor

namespace Go.Proofs.YtkkeplmaphcblaaGreatDoor
open Go.RowKit
open Go.Lib hiding intOf

theorem short_end : ∀ (k : Nat) (n : Int), (short k n).2 = 0 ∨ ¬ (short k n).1 % 10 = 0
  | 0, n => .inl rfl
  | k + 1, n => by
    rw [short]
    split
    · exact short_end k _
    · rename_i h; exact .inr h
/-- A number that was read is sound, and its text is no longer. -/
def NumOk (R : Res) (len : Nat) : Prop := 0 ≤ R.n ∧ soundS R.n R.s = true ∧ (textU R.n.toNat R.s.toNat).length ≤ len
theorem num_dec {pt wh u len : Nat} (hu : u < 10 ^ (wh + pt)) (hw : 1 ≤ wh) (h6 : pt ≤ 6) (hlen : wh + pt ≤ len) (hdot : 0 < pt → wh + 1 + pt ≤ len) (he : (decS pt (u : Int) false).e = 0) : NumOk (decS pt (u : Int) false) len := by
  obtain ⟨b1, b2, b3, b4⟩ := short_bd pt (u : Int) (by omega)
  have hend := short_end pt (u : Int)
  unfold decS at he ⊢
  split at he
  · cases he
  · rename_i hb
    rw [if_neg hb]
    have hbig := big_def
    have hN : ((short pt (u : Int)).1.toNat : Int) = (short pt (u : Int)).1 := Int.toNat_of_nonneg b1
    have hS : ((short pt (u : Int)).2.toNat : Int) = (short pt (u : Int)).2 := Int.toNat_of_nonneg b3
    refine ⟨by simpa using b1, ?_, ?_⟩
    · rw [sound_iff]
      unfold soundB
      simp only [Bool.false_eq_true, if_false]
      exact decide_eq_true ⟨b3, by omega, by omega, by omega, hend⟩
    · simp only [Bool.false_eq_true, if_false]
      have hNu : (short pt (u : Int)).1.toNat < 10 ^ (wh + pt) := by omega
      have hd := nDigits_le (by omega) hNu
      unfold textU
      split
      · rw [decDigits_length]; omega
      · rename_i h0
        have h2 := nDigits_div (N := (short pt (u : Int)).1.toNat) (sc := (short pt (u : Int)).2.toNat)
        rw [List.length_append, decDigits_length, List.length_cons, pd_length]
        have := hdot (by omega)
        omega
theorem reads_num (s : ByteArray) (m : Int) (hs : s.size < 4294967281) (h45 : byteAt s 0 ≠ 45) : ∃ R : Res, (∀ w : World, w.cell? ⟨1, 0, none⟩ = some (.int .i64 m) → Calls Tryz.prog 201 #[.string s] w fun x w' => x = .returned (.tuple #[.agg #[.int .i64 R.n, .int .i64 R.s], .int .i64 R.e]) ∧ Below w.heap.size w w') ∧ (R.e = 0 → NumOk R s.size) := by
  obtain ⟨r, wh, pa, pt, minus, dot, P⟩ := parts_ex s hs
  have C := P.cut
  obtain rfl : minus = false := by
    cases minus with
    | false => rfl
    | true => exact absurd (P.m1 rfl).2.1 h45
  have hsr := (P.m0 rfl).1
  by_cases good : (allDig wh.data.toList = true ∧ (dot = true → allDig pa.data.toList = true)) ∧ ¬ (dot = true ∧ pa.size = 0) ∧ wh.size ≠ 0 ∧ ¬ lead wh
  · obtain ⟨g1, g2, g3, g4⟩ := good
    have dw : digB wh = true := digB_iff.2 ⟨g3, g1.1⟩
    have dp : dot = false ∨ dot = true ∧ digB pa = true := by
      cases hd : dot with
      | false => exact .inl rfl
      | true => exact .inr ⟨rfl, digB_iff.2 ⟨fun h0 => g2 ⟨hd, h0⟩, g1.2 hd⟩⟩
    by_cases big : 6 < pt.size ∨ 12 < wh.size
    · refine ⟨⟨0, 0, 3⟩, fun w hm => ?_, fun h => by cases h⟩
      rcases lead_ways g4 with l1 | ⟨l1, l2⟩
      · have h6 : 6 < pt.size := by omega
        exact parse_Do C dw dp l1 h6 m w hm
      · by_cases h6 : 6 < pt.size
        · exact parse_Dt C dw dp l1 l2 h6 m w hm
        · exact parse_Et C dw dp l1 l2 (by omega) (by omega) m w hm
    · obtain ⟨t, ht⟩ := trim_sub pa.data.toList
      rw [C.h4] at ht
      have hpt : allDig pt.data.toList = true := by
        rcases dp with hd | ⟨_, hd⟩
        · have hpa := (P.w3 hd).2
          have h0 : pt.data.toList = [] := by rw [← C.h4, hpa]; rfl
          rw [h0]; rfl
        · have := (digB_iff.1 hd).2
          rw [ht] at this
          unfold allDig at this ⊢
          rw [List.all_append, Bool.and_eq_true] at this
          exact this.1
      have hall : allDig (wh ++ pt).data.toList = true := by
        rw [ByteArray.data_append, Array.toList_append]
        unfold allDig at g1 hpt ⊢
        rw [List.all_append, Bool.and_eq_true]
        exact ⟨g1.1, hpt⟩
      have hsz : (wh ++ pt).data.toList.length = (wh ++ pt).size := by simp
      obtain ⟨u, u1, u2, u3⟩ := digits_of (wh ++ pt).size (wh ++ pt).data.toList hsz hall
      have hsize : (wh ++ pt).size = wh.size + pt.size := ByteArray.size_append
      have hle : 10 ^ (wh ++ pt).size ≤ 10 ^ 18 := Nat.pow_le_pow_right (by decide) (by omega)
      have hu : Lib.parseUintB 64 (wh ++ pt).data.toList = .ok u := by
        unfold Lib.parseUintB
        rw [if_neg (by intro e; rw [e] at hsz; simp at hsz; omega)]
        exact uintM_of _ 0 u hall u1 (by omega)
      have hpl : pt.size ≤ pa.size := by
        have := congrArg List.length ht
        rw [List.length_append] at this
        have a1 : pa.data.toList.length = pa.size := by simp
        have a2 : pt.data.toList.length = pt.size := by simp
        omega
      have hwr := P.w1
      have hlen : dot = true → wh.size + 1 + pa.size = s.size := fun hd => by
        obtain ⟨q1, _, _, q4⟩ := P.w2 hd
        rw [← q4, ByteArray.size_extract, ← hsr]
        rw [← hsr] at q1
        omega
      have hnod : dot = false → pt.size = 0 := fun hd => by
        have hpa := (P.w3 hd).2
        rw [hpa] at hpl
        exact Nat.le_zero.1 hpl
      refine ⟨decS pt.size (u : Int) false, fun w hm => ?_, fun he => ?_⟩
      · rcases lead_ways g4 with l1 | ⟨l1, l2⟩
        · exact parse_Fo C dw dp l1 (by omega) (by omega) u hu (by omega) m w hm
        · exact parse_Ft C dw dp l1 l2 (by omega) (by omega) u hu (by omega) m w hm
      · rw [hsize] at u2
        rw [← hsr] at hwr
        cases hd : dot with
        | false =>
          have h0 := hnod hd
          exact num_dec u2 (by omega) (by omega) (by omega) (fun h => by omega) he
        | true =>
          have h0 := hlen hd
          exact num_dec u2 (by omega) (by omega) (by omega) (fun h => by omega) he
  · refine ⟨⟨0, 0, 5⟩, fun w hm => ?_, fun h => by cases h⟩
    cases dw : digB wh with
    | false => exact parse_A C dw m w hm
    | true =>
      by_cases hd : dot = true ∧ digB pa = false
      · exact parse_B C dw hd.1 hd.2 m w hm
      · have dp : dot = false ∨ dot = true ∧ digB pa = true := by
          cases hdt : dot with
          | false => exact .inl rfl
          | true =>
            cases hpa : digB pa with
            | true => exact .inr ⟨rfl, rfl⟩
            | false => exact absurd ⟨hdt, hpa⟩ hd
        by_cases hl : lead wh
        · refine parse_C C dw dp hl.1 ?_ m w hm
          have := hl.2
          rw [byteAt_eq wh 0 (by have := hl.1; omega)] at this
          rw [this]; rfl
        · exfalso
          have w0 := digB_iff.1 dw
          apply good
          refine ⟨⟨w0.2, fun hdt => ?_⟩, fun h => ?_, w0.1, hl⟩
          · rcases dp with h | ⟨_, h⟩
            · rw [hdt] at h; cases h
            · exact (digB_iff.1 h).2
          · rcases dp with h2 | ⟨_, h2⟩
            · rw [h.1] at h2; cases h2
            · exact (digB_iff.1 h2).1 h.2
end Go.Proofs.YtkkeplmaphcblaaGreatDoor
namespace Go.Proofs.YtkkeplmaphcblaaGreatDoor.Days
open Go.RowKit
open Go.Lib hiding intOf
theorem day_range {y m d : Int} (h : (dayR y m d).e = 0) : 0 ≤ (dayR y m d).n ∧ (dayR y m d).n ≤ 3652058 := by
  unfold dayR at h ⊢
  split at h
  · rename_i ok
    rw [if_pos ok]
    obtain ⟨a, b, c, e, f, g⟩ := ok
    obtain ⟨k, hk⟩ : ∃ k : Nat, m = (k : Int) + 1 := ⟨(m - 1).toNat, by omega⟩
    subst hk
    have h1 := cum_bd y k
    have h2 := cum_succ y k
    have h3 := cum_mono y (a := k + 1) (b := 12) (by omega)
    have h4 := cum_12 y
    have h5 := first_succ y
    have h6 := first_mono (a := y + 1) (b := 10000) (by omega)
    have h7 := first_10000
    have h8 := first_ge a
    have h9 := len_bd y ((k : Int) + 1)
    show 0 ≤ dayN _ _ _ ∧ dayN _ _ _ ≤ _
    unfold dayN
    rw [show ((k : Int) + 1 - 1).toNat = k by omega]
    omega
  · cases h
theorem days_form (s : ByteArray) (m : Int) (hs : s.size < 4294967281) : ∃ n e : Int, (∀ w : World, w.cell? ⟨1, 0, none⟩ = some (.int .i64 m) → Calls Tryz.prog 165 #[.string s] w fun x w' => x = .returned (.tuple #[.int .i64 n, .int .i64 e]) ∧ Below w.heap.size w w') ∧ (e = 0 → 0 ≤ n ∧ n ≤ 3652058) := by
  by_cases h2 : countB s ⟨#[45]⟩ = 2
  · obtain ⟨a, b, c, hp, l1, l2, l3⟩ := splitB_three h2
    refine ⟨_, _, fun w hm => parse_parts s a b c m hs (by omega) (by omega) (by omega) h2 hp w hm, fun h => ?_⟩
    unfold parseR at h ⊢
    split at h
    · rename_i hg
      rw [if_pos hg]
      exact day_range h
    · cases h
  · exact ⟨0, 5, fun w hm => parse_few s m _ hs rfl (by omega) w hm, fun h => by cases h⟩
theorem pd_bytes {k n : Nat} {x : UInt8} (h : x ∈ pd k n) : x ≠ 34 ∧ x ≠ 92 := by
  have h1 := allDig_pd k n
  unfold allDig at h1
  have h2 := of_decide_eq_true (List.all_eq_true.1 h1 x h)
  constructor
  · rintro rfl; exact absurd h2.1 (by decide)
  · rintro rfl; exact absurd h2.2 (by decide)
/-- A day's text is read as it. -/
theorem text_read (n : Int) (h0 : 0 ≤ n) (h1 : n ≤ 3652058) : ∃ l : Bs, l.length = 10 ∧ (∀ x ∈ l, x ≠ 34 ∧ x ≠ 92) ∧ (∀ w, Lib.TabIs Tryz.prog w "internal/strconv.uint64pow10" .u64 Lib.pow10Tab → Calls Tryz.prog 142 #[.int .i64 n] w fun x w' => x = .returned (.tuple #[.string (bs l), .int .i64 0]) ∧ Below w.heap.size w w') ∧ (∀ (q : Int) (w : World), w.cell? ⟨1, 0, none⟩ = some (.int .i64 q) → Calls Tryz.prog 165 #[.string (bs l)] w fun x w' => x = .returned (.tuple #[.int .i64 n, .int .i64 0]) ∧ Below w.heap.size w w') := by
  obtain ⟨y, m, a, b, c, d, e, f, g⟩ := date_of n h0 h1
  have hl := len_bd y ((m : Int) + 1)
  have hs := cum_succ y m
  have hok : okD y ((m : Int) + 1) (n - firstS y - cumS y m + 1) := ⟨a, b, by omega, by omega, by omega, by omega⟩
  have hn : dayN y ((m : Int) + 1) (n - firstS y - cumS y m + 1) = n := by
    unfold dayN
    rw [show ((m : Int) + 1 - 1).toNat = m by omega]
    omega
  have hr : dayR y ((m : Int) + 1) (n - firstS y - cumS y m + 1) = ⟨n, 0⟩ := by unfold dayR; rw [if_pos hok, hn]
  refine ⟨textL y.toNat (m + 1) (n - firstS y - cumS y m + 1).toNat, textL_length _ _ _, fun x hx => ?_, fun w ht => text_ok n y m h0 h1 a b c d e f g w ht, fun q w hm => ?_⟩
  · unfold textL at hx
    simp only [List.mem_append, List.mem_cons] at hx
    rcases hx with h | h | h | h | h
    · exact pd_bytes h
    · subst h; decide
    · exact pd_bytes h
    · subst h; decide
    · exact pd_bytes h
  · have := parse_text y.toNat (m + 1) (n - firstS y - cumS y m + 1).toNat (by omega) (by omega) (by omega) q _ rfl w hm
    rw [Int.toNat_of_nonneg (by omega), Int.toNat_of_nonneg (by omega), show (((m + 1 : Nat) : Int)) = (m : Int) + 1 by omega, hr] at this
    exact this
end Go.Proofs.YtkkeplmaphcblaaGreatDoor.Days

namespace Go.Proofs.YtkkeplmaphcblaaGreatDoor
open Go.RowKit
open Go.Lib hiding intOf

theorem qS_esc : ∀ (t m : Bs), qS (escB t ++ 34 :: m) = some (t, (escB t).length + 1)
  | [], m => by
    show qS (34 :: m) = _
    rw [qS_cons, if_pos rfl]
    rfl
  | c :: t, m => by
    rw [escB, List.append_assoc, List.length_append]
    by_cases h1 : c = 92
    · subst h1
      show qS (92 :: 92 :: (escB t ++ 34 :: m)) = some (92 :: t, 2 + (escB t).length + 1)
      rw [qS_cons, if_neg (by decide), if_pos rfl]
      simp [qS_esc t m]
      omega
    · by_cases h2 : c = 34
      · subst h2
        show qS (92 :: 34 :: (escB t ++ 34 :: m)) = some (34 :: t, 2 + (escB t).length + 1)
        rw [qS_cons, if_neg (by decide), if_pos rfl]
        simp [qS_esc t m]
        omega
      · rw [escC_same h2 h1]
        show qS (c :: (escB t ++ 34 :: m)) = some (c :: t, 1 + (escB t).length + 1)
        rw [qS_cons, if_neg h2, if_neg h1, qS_esc t m]
        simp
        omega
theorem qS_plain : ∀ (l m : Bs), (∀ x ∈ l, x ≠ 34 ∧ x ≠ 92) → qS (l ++ 34 :: m) = some (l, l.length + 1)
  | [], m, _ => by
    show qS (34 :: m) = _
    rw [qS_cons, if_pos rfl]
    rfl
  | c :: l, m, h => by
    obtain ⟨h1, h2⟩ := h c (List.mem_cons_self ..)
    rw [List.cons_append, qS_cons, if_neg h1, if_neg h2, qS_plain l m fun x hx => h x (List.mem_cons_of_mem _ hx)]
    rfl
theorem qS_more : ∀ (k : Nat) (l : Bs) (p : Bs × Nat), l.length ≤ k → qS l = some p → p.1.length + 1 ≤ p.2
  | _, [], _, _, h => by simp [qS] at h
  | 0, c :: r, _, hk, _ => by simp at hk
  | k + 1, c :: r, p, hk, h => by
    rw [qS_cons] at h
    rw [List.length_cons] at hk
    by_cases h1 : c = 34
    · rw [if_pos h1] at h
      cases h
      simp
    · rw [if_neg h1] at h
      by_cases h2 : c = 92
      · rw [if_pos h2] at h
        cases r with
        | nil => cases h
        | cons d r2 =>
          simp only at h
          rw [List.length_cons] at hk
          by_cases h3 : d = 34 ∨ d = 92
          · rw [if_pos h3] at h
            cases hq : qS r2 with
            | none => rw [hq] at h; cases h
            | some q =>
              rw [hq] at h
              have := qS_more k r2 q (by omega) hq
              cases h
              simp only [List.length_cons]
              omega
          · rw [if_neg h3] at h; cases h
      · rw [if_neg h2] at h
        cases hq : qS r with
        | none => rw [hq] at h; cases h
        | some q =>
          rw [hq] at h
          have := qS_more k r q (by omega) hq
          cases h
          simp only [List.length_cons]
          omega

theorem figs_dig {x : UInt8} (h : 48 ≤ x.toNat ∧ x.toNat ≤ 57) : figs.contains x = true := by
  have h2 : x.toNat = 48 ∨ x.toNat = 49 ∨ x.toNat = 50 ∨ x.toNat = 51 ∨ x.toNat = 52 ∨ x.toNat = 53 ∨ x.toNat = 54 ∨ x.toNat = 55 ∨ x.toNat = 56 ∨ x.toNat = 57 := by omega
  rcases h2 with h | h | h | h | h | h | h | h | h | h
  · obtain rfl : x = 48 := UInt8.toNat_inj.1 h; rfl
  · obtain rfl : x = 49 := UInt8.toNat_inj.1 h; rfl
  · obtain rfl : x = 50 := UInt8.toNat_inj.1 h; rfl
  · obtain rfl : x = 51 := UInt8.toNat_inj.1 h; rfl
  · obtain rfl : x = 52 := UInt8.toNat_inj.1 h; rfl
  · obtain rfl : x = 53 := UInt8.toNat_inj.1 h; rfl
  · obtain rfl : x = 54 := UInt8.toNat_inj.1 h; rfl
  · obtain rfl : x = 55 := UInt8.toNat_inj.1 h; rfl
  · obtain rfl : x = 56 := UInt8.toNat_inj.1 h; rfl
  · obtain rfl : x = 57 := UInt8.toNat_inj.1 h; rfl
theorem figs_pd {k n : Nat} {x : UInt8} (h : x ∈ pd k n) : figs.contains x = true := by
  have h1 := allDig_pd k n
  unfold allDig at h1
  exact figs_dig (of_decide_eq_true (List.all_eq_true.1 h1 x h))
theorem runS_len {S : Bs} : ∀ {l : Bs}, (∀ x ∈ l, S.contains x = true) → runS S l = l.length
  | [], _ => rfl
  | c :: l, h => by
    rw [runS_cons, if_pos (h c (List.mem_cons_self ..)), runS_len fun x hx => h x (List.mem_cons_of_mem _ hx)]
    rfl
theorem numLen_text (N sc : Nat) : numLen (textU N sc) = (textU N sc).length := by
  unfold textU
  split
  · have h : ∀ x ∈ decDigits N, figs.contains x = true := fun x hx => by rw [dec_pd] at hx; exact figs_pd hx
    unfold numLen
    rw [runS_len h, List.drop_length, if_neg (by decide)]
  · rename_i h0
    obtain ⟨k, rfl⟩ : ∃ k, sc = k + 1 := ⟨sc - 1, by omega⟩
    have h : ∀ x ∈ decDigits (N / 10 ^ (k + 1)), figs.contains x = true := fun x hx => by rw [dec_pd] at hx; exact figs_pd hx
    have hp : runS figs (pd (k + 1) N) = (pd (k + 1) N).length := runS_len fun x hx => figs_pd hx
    have hd : dotted (46 :: pd (k + 1) N) = true := by
      rw [pd_cons]
      show figs.contains _ = true
      exact figs_pd (k := k + 1) (n := N) (by rw [pd_cons]; exact List.mem_cons_self ..)
    unfold numLen
    rw [runS_app figs (show figs.contains 46 = false from rfl), runS_len h, List.drop_left' rfl, if_pos hd]
    have hdr : (decDigits (N / 10 ^ (k + 1)) ++ 46 :: pd (k + 1) N).drop ((decDigits (N / 10 ^ (k + 1))).length + 1) = pd (k + 1) N := by
      rw [← List.drop_drop, List.drop_left' rfl]
      rfl
    rw [hdr, hp, List.length_append, List.length_cons]
    omega
theorem text_head (N sc : Nat) : ∃ c r, textU N sc = c :: r ∧ figs.contains c = true := by
  have h : ∀ M : Nat, ∃ c r, decDigits M = c :: r ∧ figs.contains c = true := fun M => by
    obtain ⟨k, hk⟩ : ∃ k, nDigits M = k + 1 := ⟨nDigits M - 1, by have := nDigits_pos M; omega⟩
    refine ⟨_, _, by rw [dec_pd, hk, pd_cons], ?_⟩
    exact figs_pd (k := k + 1) (n := M) (by rw [pd_cons]; exact List.mem_cons_self ..)
  unfold textU
  split
  · exact h N
  · obtain ⟨c, r, h1, h2⟩ := h (N / 10 ^ sc)
    exact ⟨c, _, by rw [h1]; rfl, h2⟩

theorem lxP_eq (m : Int) (w : World) (hw : OKW m w) (l : Bs) (hl : l.length ≤ 4000000) {a b c : Int} {Q : World → Prop}
    (h : Calls Tryz.prog 201 #[.string (bs l)] w fun e w' => e = .returned (.tuple #[.agg #[.int .i64 a, .int .i64 b], .int .i64 c]) ∧ Q w') : (lxP m l).n = a ∧ (lxP m l).s = b ∧ (lxP m l).e = c := by
  have h1 := (lx_ok m).P (bs l) l rfl hl w hw
  have h2 := calls_det (by kernel_rfl) h1 h
  simp at h2
  exact ⟨h2.1.1, h2.1.2, h2.2⟩
theorem lxD_eq (m : Int) (w : World) (hw : OKW m w) (l : Bs) (hl : l.length ≤ 4000000) {a c : Int} {Q : World → Prop}
    (h : Calls Tryz.prog 165 #[.string (bs l)] w fun e w' => e = .returned (.tuple #[.int .i64 a, .int .i64 c]) ∧ Q w') : (lxD m l).1 = a ∧ (lxD m l).2 = c := by
  have h1 := (lx_ok m).D (bs l) l rfl hl w hw
  have h2 := calls_det (by kernel_rfl) h1 h
  simp at h2
  exact h2
theorem yT_eq (m : Int) (w : World) (hw : OKW m w) (n : Int) {l : Bs} {c : Int} {Q : World → Prop}
    (h : Calls Tryz.prog 142 #[.int .i64 n] w fun e w' => e = .returned (.tuple #[.string (bs l), .int .i64 c]) ∧ Q w') : (yT n).1 = l ∧ (yT n).2 = c := by
  have h1 := (yT_spec n).2.1 w hw.tab
  have h2 := calls_det (by kernel_rfl) h1 h
  simp at h2
  refine ⟨?_, h2.2⟩
  have := congrArg (fun b : ByteArray => b.data.toList) h2.1
  exact this

theorem ok0 : I64 0 := ⟨by decide, by decide⟩
/-- What wants to be known of a token. -/
structure Once (x : Lx) (t : Ti) (n : Nat) : Prop where
  wr : ∃ o, wrS x t = some o ∧ o.length + 1 ≤ 3 * n
  ok : t.Ok
  len : t.t.length ≤ 100000
theorem wr_of {x : Lx} {t : Ti} {o : Bs} (h : outS t = some o) (hk : okT (nextS x (o ++ [32])) o t) : wrS x t = some o := by
  unfold wrS
  rw [h]
  exact if_pos hk
theorem once_num (m : Int) (w : World) (hw : OKW m w) (c : UInt8) (r : Bs) (hl : (c :: r).length ≤ 100000) (hc : figs.contains c = true) (he : (numS (lxX m) (c :: r)).e = 0) : Once (lxX m) (numS (lxX m) (c :: r)).t.i (numS (lxX m) (c :: r)).n := by
  have hn := numLen_le (c :: r)
  obtain ⟨k, hk⟩ : ∃ k, numLen (c :: r) = k := ⟨_, rfl⟩
  have hk1 : 1 ≤ k := by
    rw [← hk]
    unfold numLen
    have := runS_head (l := r) hc
    split <;> omega
  unfold numS at he ⊢
  rw [hk] at he hn ⊢
  obtain ⟨q, hq⟩ : ∃ q, (c :: r).take k = q := ⟨_, rfl⟩
  have hql : q.length = k := by rw [← hq, List.length_take]; omega
  have h45 : byteAt (bs q) 0 ≠ 45 := by
    obtain ⟨j, rfl⟩ : ∃ j, k = j + 1 := ⟨k - 1, by omega⟩
    rw [← hq]
    show c ≠ 45
    rintro rfl
    cases hc
  rw [hq] at he ⊢
  obtain ⟨R, hR, hok⟩ := reads_num (bs q) m (by rw [bs_size]; omega) h45
  obtain ⟨e1, e2, e3⟩ := lxP_eq m w hw q (by omega) (hR w hw.hm)
  have he2 : R.e = 0 := e3.symm.trans he
  obtain ⟨n0, sd, hlen⟩ := hok he2
  obtain ⟨b1, b2, b3, b4, _⟩ := sound_bd sd
  have hP : (lxX m).P q = lxP m q := rfl
  show Once (lxX m) ⟨1, 0, [], ((lxX m).P q).n, ((lxX m).P q).s, 0⟩ k
  rw [hP, e1, e2]
  have hm0 : decide (R.n < 0) = false := decide_eq_false (by omega)
  have hmg : mag R.n = R.n := by unfold mag; rw [if_neg (by omega)]
  have hdt : dT R.n R.s = (textU R.n.toNat R.s.toNat, 0) := by
    unfold dT
    rw [if_pos sd, hm0, hmg]
    rfl
  have ho : outS ⟨1, 0, [], R.n, R.s, 0⟩ = some (textU R.n.toNat R.s.toNat) := by
    unfold outS
    simp only [hdt]
    rw [if_pos trivial, if_pos ⟨by omega, trivial, trivial, trivial⟩]
  rw [bs_size, hql] at hlen
  refine ⟨⟨_, wr_of ho ?_, by omega⟩, ⟨(show I64 R.n from ⟨by omega, by omega⟩), (show I64 R.s from ⟨by omega, by omega⟩), ok0⟩, by simp⟩
  obtain ⟨c', r', h1, h2⟩ := text_head R.n.toNat R.s.toNat
  have hnx : nextS (lxX m) (textU R.n.toNat R.s.toNat ++ [32]) = numS (lxX m) (textU R.n.toNat R.s.toNat ++ 32 :: []) := by
    rw [h1, List.cons_append]
    unfold nextS
    exact if_pos h2
  rw [hnx, num_app]
  unfold numS
  rw [numLen_text, List.take_length]
  have hb := parse_back R.n R.s R.n.toNat R.s.toNat sd (by omega) (by rw [hmg]; omega) (bs (textU R.n.toNat R.s.toNat)) (by rw [hm0]; rfl) m w hw.hm
  obtain ⟨g1, g2, g3⟩ := lxP_eq m w hw _ (by omega) hb
  exact ⟨g3, rfl, rfl, rfl, g1, g2, rfl⟩
theorem once_str (m : Int) (r : Bs) (_hl : r.length ≤ 100000) (he : (strS (lxX m) r).e = 0) : Once (lxX m) (strS (lxX m) r).t.i (strS (lxX m) r).n := by
  unfold strS at he ⊢
  cases hq : qS r with
  | none => rw [hq] at he; cases he
  | some p =>
    rw [hq] at he
    simp only at he ⊢
    split at he
    · cases he
    · rename_i hc
      rw [if_neg hc]
      have h1 := qS_more r.length r p (Nat.le_refl _) hq
      have h2 := escB_two p.1
      have h3 := (qS_app r.length r [] p (Nat.le_refl _) hq).2.1
      have hp : p.1.length ≤ 256 := by omega
      have hG : ¬ (lxX m).G p.1 = false := fun h => hc (.inr h)
      have ho : outS ⟨2, 0, p.1, 0, 0, 0⟩ = some (34 :: (escB p.1 ++ [34])) := by simp [outS]
      show Once (lxX m) ⟨2, 0, p.1, 0, 0, 0⟩ (p.2 + 1)
      refine ⟨⟨_, wr_of ho ?_, by simp; omega⟩, ⟨ok0, ok0, ok0⟩, by show p.1.length ≤ _; omega⟩
      have hnx : nextS (lxX m) (34 :: (escB p.1 ++ [34]) ++ [32]) = strS (lxX m) (escB p.1 ++ 34 :: [32]) := by
        rw [List.cons_append, List.append_assoc]
        rfl
      rw [hnx]
      unfold strS
      rw [qS_esc]
      simp only
      rw [if_neg (by rintro (h | h); · omega
                     · exact hG h)]
      exact ⟨rfl, by simp, rfl, rfl, rfl, rfl, rfl⟩
theorem once_date (m : Int) (w : World) (hw : OKW m w) (r : Bs) (_hl : r.length ≤ 100000) (he : (dateS (lxX m) r).e = 0) : Once (lxX m) (dateS (lxX m) r).t.i (dateS (lxX m) r).n := by
  unfold dateS at he ⊢
  cases hq : quoD r with
  | none => rw [hq] at he; cases he
  | some p =>
    rw [hq] at he
    simp only at he ⊢
    split at he
    · cases he
    · rename_i hc
      rw [if_neg hc]
      have h11 : p.2 = 11 := Classical.byContradiction fun hn => hc (.inr hn)
      have hD : ((lxX m).D p.1).2 = 0 := Classical.byContradiction fun hn => hc (.inl hn)
      have hpl : p.1.length + 1 ≤ p.2 := by
        unfold quoD at hq
        split at hq
        · exact qS_more _ _ p (Nat.le_refl _) hq
        · cases hq
      obtain ⟨n, e, hn, hr⟩ := Days.days_form (bs p.1) m (by rw [bs_size]; omega)
      obtain ⟨e1, e2⟩ := lxD_eq m w hw p.1 (by omega) (hn w hw.hm)
      have hDe : (lxX m).D p.1 = lxD m p.1 := rfl
      rw [hDe] at hD ⊢
      obtain ⟨d0, d1⟩ := hr (e2.symm.trans hD)
      rw [e1]
      obtain ⟨l, l10, lb, lt, lp⟩ := Days.text_read n d0 d1
      obtain ⟨y1, y2⟩ := yT_eq m w hw n (lt w hw.tab)
      have ho : outS ⟨3, 0, [], 0, 0, n⟩ = some (64 :: 34 :: (l ++ [34])) := by
        simp [outS, y1, y2]
      show Once (lxX m) ⟨3, 0, [], 0, 0, n⟩ 13
      refine ⟨⟨_, wr_of ho ?_, by simp; omega⟩, ⟨ok0, ok0, (show I64 n from ⟨by omega, by omega⟩)⟩, by simp⟩
      have hnx : nextS (lxX m) (64 :: 34 :: (l ++ [34]) ++ [32]) = dateS (lxX m) (34 :: (l ++ 34 :: [32])) := by
        rw [List.cons_append, List.cons_append, List.append_assoc]
        rfl
      rw [hnx]
      obtain ⟨g1, g2⟩ := lxD_eq m w hw l (by omega) (lp m w hw.hm)
      have hDl : (lxX m).D l = (n, 0) := by
        show lxD m l = _
        rw [← g1, ← g2]
      have hqd : quoD (34 :: (l ++ 34 :: [32])) = some (l, 11) := by
        unfold quoD
        rw [if_pos (show (34 :: (l ++ 34 :: [32])).head? = some 34 from rfl)]
        show qS (l ++ 34 :: [32]) = _
        rw [qS_plain l [32] lb, l10]
      unfold dateS
      rw [hqd]
      simp only [hDl]
      rw [if_neg (by simp)]
      exact ⟨rfl, by simp [l10], rfl, rfl, rfl, rfl, rfl⟩
theorem once_name (m : Int) (c : UInt8) (r : Bs) (_hl : (c :: r).length ≤ 100000) (h1 : ¬ figs.contains c = true) (h2 : ¬ c = 34) (h3 : ¬ c = 64) (h4 : lets.contains c = true) (he : (nameS (c :: r)).e = 0) : Once (lxX m) (nameS (c :: r)).t.i (nameS (c :: r)).n := by
  have h5 : 1 ≤ runS (lets ++ figs) (c :: r) := runS_head (by
    rw [List.contains_iff_mem] at h4 ⊢
    exact List.mem_append_left _ h4)
  unfold nameS at he ⊢
  split at he
  · cases he
  · rename_i hc
    rw [if_neg hc]
    obtain ⟨k, hk⟩ : ∃ k, runS (lets ++ figs) (c :: r) = k := ⟨_, rfl⟩
    have hkl := runS_le (lets ++ figs) (c :: r)
    rw [hk] at h5 hc hkl ⊢
    obtain ⟨j, rfl⟩ : ∃ j, k = j + 1 := ⟨k - 1, by omega⟩
    have htl : ((c :: r).take (j + 1)).length = j + 1 := by rw [List.length_take]; omega
    have ho : outS ⟨4, 0, (c :: r).take (j + 1), 0, 0, 0⟩ = some ((c :: r).take (j + 1)) := by simp [outS]
    show Once (lxX m) ⟨4, 0, (c :: r).take (j + 1), 0, 0, 0⟩ (j + 1)
    refine ⟨⟨_, wr_of ho ?_, by rw [htl]; show j + 1 + 1 ≤ 3 * (j + 1); omega⟩, ⟨ok0, ok0, ok0⟩, by show ((c :: r).take (j + 1)).length ≤ _; omega⟩
    have hnx : nextS (lxX m) ((c :: r).take (j + 1) ++ [32]) = nameS ((c :: r).take (j + 1) ++ 32 :: []) := by
      rw [List.take_succ_cons, List.cons_append]
      unfold nextS
      simp only
      rw [if_neg h1, if_neg h2, if_neg h3, if_pos h4]
    have hrun : runS (lets ++ figs) ((c :: r).take (j + 1)) = j + 1 := by
      have := runS_take (S := lets ++ figs) (l := c :: r)
      rw [hk] at this
      rw [this]
    rw [hnx, name_app]
    unfold nameS
    rw [hrun, if_neg hc]
    refine ⟨rfl, htl.symm, rfl, ?_, rfl, rfl, rfl⟩
    show ((c :: r).take (j + 1)).take (j + 1) = (c :: r).take (j + 1)
    rw [List.take_take, Nat.min_self]
where
  runS_take {S : Bs} : ∀ {l : Bs}, runS S (l.take (runS S l)) = runS S l
    | [] => rfl
    | c :: l => by
      rw [runS_cons]
      split
      · rename_i h
        rw [List.take_succ_cons, runS_cons, if_pos h, runS_take]
      · rfl
theorem sign_back (x : Lx) (g : Bs) (h : g ∈ signsL) : nextS x (g ++ [32]) = ⟨⟨5, 0, g, 0, 0, 0⟩, g.length, 0⟩ := by
  simp only [signsL, List.mem_cons, List.not_mem_nil, or_false] at h
  rcases h with h | h | h | h | h | h | h | h | h | h | h | h | h | h | h | h <;> subst h <;> kernel_rfl
theorem once_sign (m : Int) (l : Bs) (he : (signS l).e = 0) : Once (lxX m) (signS l).t.i (signS l).n := by
  unfold signS at he ⊢
  cases hf : signsL.find? (fun g => g.isPrefixOf l) with
  | none => rw [hf] at he; cases he
  | some g =>
    have hg := List.mem_of_find?_eq_some hf
    have hl : 1 ≤ g.length ∧ g.length ≤ 2 := by
      have h := hg
      simp only [signsL, List.mem_cons, List.not_mem_nil, or_false] at h
      rcases h with h | h | h | h | h | h | h | h | h | h | h | h | h | h | h | h <;> subst h <;> decide
    have ho : outS ⟨5, 0, g, 0, 0, 0⟩ = some g := by simp [outS]
    show Once (lxX m) ⟨5, 0, g, 0, 0, 0⟩ g.length
    refine ⟨⟨_, wr_of ho ?_, by show g.length + 1 ≤ 3 * g.length; omega⟩, ⟨ok0, ok0, ok0⟩, by show g.length ≤ _; omega⟩
    rw [sign_back _ g hg]
    exact ⟨rfl, rfl, rfl, rfl, rfl, rfl, rfl⟩
theorem once_next (m : Int) (w : World) (hw : OKW m w) (l : Bs) (hl : l.length ≤ 100000) (he : (nextS (lxX m) l).e = 0) : Once (lxX m) (nextS (lxX m) l).t.i (nextS (lxX m) l).n := by
  match l with
  | [] => cases he
  | c :: r =>
    have hr : r.length ≤ 100000 := by rw [List.length_cons] at hl; omega
    unfold nextS at he ⊢
    simp only at he ⊢
    by_cases h1 : figs.contains c = true
    · rw [if_pos h1] at he ⊢
      exact once_num m w hw c r hl h1 he
    · rw [if_neg h1] at he ⊢
      by_cases h2 : c = 34
      · rw [if_pos h2] at he ⊢
        exact once_str m r hr he
      · rw [if_neg h2] at he ⊢
        by_cases h3 : c = 64
        · rw [if_pos h3] at he ⊢
          exact once_date m w hw r hr he
        · rw [if_neg h3] at he ⊢
          by_cases h4 : lets.contains c = true
          · rw [if_pos h4] at he ⊢
            exact once_name m c r hl h1 h2 h3 h4 he
          · rw [if_neg h4] at he ⊢
            exact once_sign m (c :: r) he

def lenS1 (P : List Bs) : Nat := (P.map fun o => o.length + 1).sum
theorem joinB_len : ∀ P : List Bs, (joinB P).length ≤ lenS1 P
  | [] => by simp [joinB]
  | [t] => by simp [joinB, lenS1]
  | t :: u :: r => by
    have := joinB_len (u :: r)
    unfold lenS1 at this ⊢
    rw [joinB, List.length_append, List.length_cons, List.map_cons, List.sum_cons]
    omega
/-- What is read can be written. -/
theorem once_toks (m : Int) (w : World) (hw : OKW m w) : ∀ (f a : Nat) (l : Bs) (acc : List Tk), l.length ≤ 100000 → (toksA (lxX m) f a l acc).e = 0 →
    ∃ (T : List Tk) (P : List Bs), (toksA (lxX m) f a l acc).l = acc ++ T ∧ allS ((T.map Tk.i).map (wrS (lxX m))) = some P ∧ lenS1 P ≤ 3 * l.length ∧ (∀ t ∈ T.map Tk.i, t.Ok ∧ t.t.length ≤ 1900000) ∧ T.length ≤ l.length
  | 0, a, l, acc, _, _ => ⟨[], [], by simp [toksA], rfl, by simp [lenS1], fun t h => by simp at h, by simp⟩
  | f + 1, a, l, acc, hl, he => by
    cases hd : l.drop (runS whites l) with
    | nil => exact ⟨[], [], by rw [toksA_end hd]; simp, rfl, by simp [lenS1], fun t h => by simp at h, by simp⟩
    | cons c r =>
      by_cases hn : (nextS (lxX m) (c :: r)).e = 0
      · have hld := len_drop hd
        have hbd := next_bd (lxX m) _ hn
        obtain ⟨⟨o, ho, hol⟩, hok, hlen⟩ := once_next m w hw (c :: r) (by omega) hn
        rw [toksA_go hd hn] at he ⊢
        have hdl : ((c :: r).drop (nextS (lxX m) (c :: r)).n).length + (nextS (lxX m) (c :: r)).n = (c :: r).length := by rw [List.length_drop]; omega
        obtain ⟨T, P, h1, h2, h3, h4, h5⟩ := once_toks m w hw f _ _ _ (by omega) he
        refine ⟨{ (nextS (lxX m) (c :: r)).t with a := a + runS whites l } :: T, o :: P, by rw [h1]; simp, ?_, ?_, ?_, by rw [List.length_cons]; omega⟩
        · rw [List.map_cons, List.map_cons]
          have hw2 : wrS (lxX m) (Tk.i { (nextS (lxX m) (c :: r)).t with a := a + runS whites l }) = some o := ho
          rw [hw2]
          show (allS ((T.map Tk.i).map (wrS (lxX m)))).map (o :: ·) = _
          rw [h2]
          rfl
        · unfold lenS1 at h3 ⊢
          rw [List.map_cons, List.sum_cons]
          omega
        · intro t ht
          rw [List.map_cons] at ht
          rcases List.mem_cons.1 ht with h | h
          · subst h
            exact ⟨⟨hok.n, hok.s, hok.m⟩, by show (nextS (lxX m) (c :: r)).t.t.length ≤ _; have : (nextS (lxX m) (c :: r)).t.t.length ≤ 100000 := hlen; omega⟩
          · exact h4 t h
      · rw [toksA_bad hd hn] at he
        exact absurd he hn
end Go.Proofs.YtkkeplmaphcblaaGreatDoor

namespace Go.Proofs.YtkkeplmaphcblaaGreatDoor
open Go.RowKit
open Go.Lib hiding intOf

/-- A token's value is sound. -/
def tkOK (t : Tk) : Prop := (t.k = 1 → 0 ≤ t.n ∧ soundS t.n t.s = true) ∧ (t.k = 2 → t.t.length ≤ 256 ∧ goodS (bs t.t) = true) ∧ (t.k = 3 → 0 ≤ t.m ∧ t.m ≤ 3652058)
theorem tk_1 {n s : Int} {t : Bs} (h : 0 ≤ n ∧ soundS n s = true) : tkOK ⟨1, 0, t, n, s, 0⟩ := ⟨fun _ => h, (fun h => absurd (show (1 : Int) = 2 from h) (by decide)), (fun h => absurd (show (1 : Int) = 3 from h) (by decide))⟩
theorem tk_2 {t : Bs} (h : t.length ≤ 256 ∧ goodS (bs t) = true) : tkOK ⟨2, 0, t, 0, 0, 0⟩ := ⟨(fun h => absurd (show (2 : Int) = 1 from h) (by decide)), fun _ => h, (fun h => absurd (show (2 : Int) = 3 from h) (by decide))⟩
theorem tk_3 {t : Bs} {m : Int} (h : 0 ≤ m ∧ m ≤ 3652058) : tkOK ⟨3, 0, t, 0, 0, m⟩ := ⟨(fun h => absurd (show (3 : Int) = 1 from h) (by decide)), (fun h => absurd (show (3 : Int) = 2 from h) (by decide)), fun _ => h⟩
theorem tk_45 {t : Tk} (h : t.k = 4 ∨ t.k = 5) : tkOK t := ⟨(fun _ => by omega), (fun _ => by omega), (fun _ => by omega)⟩
theorem tk_num (m : Int) (w : World) (hw : OKW m w) (c : UInt8) (r : Bs) (hl : (c :: r).length ≤ 100000) (hc : figs.contains c = true) (he : (numS (lxX m) (c :: r)).e = 0) : tkOK (numS (lxX m) (c :: r)).t := by
  have hn := numLen_le (c :: r)
  obtain ⟨k, hk⟩ : ∃ k, numLen (c :: r) = k := ⟨_, rfl⟩
  have hk1 : 1 ≤ k := by
    rw [← hk]
    unfold numLen
    have := runS_head (l := r) hc
    split <;> omega
  unfold numS at he ⊢
  rw [hk] at he hn ⊢
  obtain ⟨q, hq⟩ : ∃ q, (c :: r).take k = q := ⟨_, rfl⟩
  have hql : q.length = k := by rw [← hq, List.length_take]; omega
  have h45 : byteAt (bs q) 0 ≠ 45 := by
    obtain ⟨j, rfl⟩ : ∃ j, k = j + 1 := ⟨k - 1, by omega⟩
    rw [← hq]
    show c ≠ 45
    rintro rfl
    cases hc
  rw [hq] at he ⊢
  obtain ⟨R, hR, hok⟩ := reads_num (bs q) m (by rw [bs_size]; omega) h45
  obtain ⟨e1, e2, e3⟩ := lxP_eq m w hw q (by omega) (hR w hw.hm)
  have he2 : R.e = 0 := e3.symm.trans he
  obtain ⟨n0, sd, _⟩ := hok he2
  have hP : (lxX m).P q = lxP m q := rfl
  rw [hP, e1, e2]
  exact tk_1 ⟨n0, sd⟩
theorem tk_str (m : Int) (r : Bs) (he : (strS (lxX m) r).e = 0) : tkOK (strS (lxX m) r).t := by
  unfold strS at he ⊢
  cases hq : qS r with
  | none => rw [hq] at he; cases he
  | some p =>
    rw [hq] at he
    simp only at he ⊢
    split at he
    · cases he
    · rename_i hc
      rw [if_neg hc]
      have hG : ¬ (lxX m).G p.1 = false := fun h => hc (.inr h)
      have hG2 : (lxX m).G p.1 = goodS (bs p.1) := rfl
      rw [hG2] at hG
      exact tk_2 ⟨by omega, by simpa using hG⟩
theorem tk_date (m : Int) (w : World) (hw : OKW m w) (r : Bs) (_hl : r.length ≤ 100000) (he : (dateS (lxX m) r).e = 0) : tkOK (dateS (lxX m) r).t := by
  unfold dateS at he ⊢
  cases hq : quoD r with
  | none => rw [hq] at he; cases he
  | some p =>
    rw [hq] at he
    simp only at he ⊢
    split at he
    · cases he
    · rename_i hc
      rw [if_neg hc]
      have h11 : p.2 = 11 := Classical.byContradiction fun hn => hc (.inr hn)
      have hD : ((lxX m).D p.1).2 = 0 := Classical.byContradiction fun hn => hc (.inl hn)
      have hpl : p.1.length + 1 ≤ p.2 := by
        unfold quoD at hq
        split at hq
        · exact qS_more _ _ p (Nat.le_refl _) hq
        · cases hq
      obtain ⟨n, e, hn, hr⟩ := Days.days_form (bs p.1) m (by rw [bs_size]; omega)
      obtain ⟨e1, e2⟩ := lxD_eq m w hw p.1 (by omega) (hn w hw.hm)
      have hDe : (lxX m).D p.1 = lxD m p.1 := rfl
      rw [hDe] at hD ⊢
      obtain ⟨d0, d1⟩ := hr (e2.symm.trans hD)
      rw [e1]
      exact tk_3 ⟨d0, d1⟩
theorem tk_next (m : Int) (w : World) (hw : OKW m w) (l : Bs) (hl : l.length ≤ 100000) (he : (nextS (lxX m) l).e = 0) : tkOK (nextS (lxX m) l).t := by
  match l with
  | [] => cases he
  | c :: r =>
    have hr : r.length ≤ 100000 := by rw [List.length_cons] at hl; omega
    unfold nextS at he ⊢
    simp only at he ⊢
    by_cases h1 : figs.contains c = true
    · rw [if_pos h1] at he ⊢
      exact tk_num m w hw c r hl h1 he
    · rw [if_neg h1] at he ⊢
      by_cases h2 : c = 34
      · rw [if_pos h2] at he ⊢
        exact tk_str m r he
      · rw [if_neg h2] at he ⊢
        by_cases h3 : c = 64
        · rw [if_pos h3] at he ⊢
          exact tk_date m w hw r hr he
        · rw [if_neg h3] at he ⊢
          by_cases h4 : lets.contains c = true
          · rw [if_pos h4] at he ⊢
            unfold nameS at he ⊢
            split at he
            · cases he
            · rename_i h
              rw [if_neg h]
              exact tk_45 (.inl rfl)
          · rw [if_neg h4] at he ⊢
            unfold signS at he ⊢
            cases hf : signsL.find? (fun g => g.isPrefixOf (c :: r)) with
            | none => rw [hf] at he; cases he
            | some g => exact tk_45 (.inr rfl)
theorem toksA_ok (m : Int) (w : World) (hw : OKW m w) (N : Nat) : ∀ (f a : Nat) (l : Bs) (acc : List Tk), l.length ≤ 100000 → a + l.length ≤ N → (∀ t ∈ acc, tkOK t ∧ t.a ≤ N) →
    (∀ t ∈ (toksA (lxX m) f a l acc).l, tkOK t ∧ t.a ≤ N) ∧ (toksA (lxX m) f a l acc).n ≤ N ∧ (toksA (lxX m) f a l acc).l.length ≤ acc.length + l.length
  | 0, a, l, acc, _, _, ha => ⟨ha, Nat.zero_le _, Nat.le_add_right _ _⟩
  | f + 1, a, l, acc, hl, hN, ha => by
    cases hd : l.drop (runS whites l) with
    | nil => rw [toksA_end hd]; exact ⟨ha, Nat.zero_le _, Nat.le_add_right _ _⟩
    | cons c r =>
      have hld := len_drop hd
      by_cases hn : (nextS (lxX m) (c :: r)).e = 0
      · have hbd := next_bd (lxX m) _ hn
        have hdl : ((c :: r).drop (nextS (lxX m) (c :: r)).n).length + (nextS (lxX m) (c :: r)).n = (c :: r).length := by rw [List.length_drop]; omega
        rw [toksA_go hd hn]
        have hk := tk_next m w hw (c :: r) (by omega) hn
        obtain ⟨g1, g2, g3⟩ := toksA_ok m w hw N f (a + runS whites l + (nextS (lxX m) (c :: r)).n) ((c :: r).drop (nextS (lxX m) (c :: r)).n) (acc ++ [{ (nextS (lxX m) (c :: r)).t with a := a + runS whites l }]) (by omega) (by omega) (fun t ht => by
          rcases List.mem_append.1 ht with h | h
          · exact ha t h
          · rw [List.mem_singleton.1 h]
            exact ⟨hk, show a + runS whites l ≤ N by omega⟩)
        refine ⟨g1, g2, ?_⟩
        rw [List.length_append, List.length_cons, List.length_nil] at g3
        omega
      · have : toksA (lxX m) (f + 1) a l acc = ⟨[], a + runS whites l, (nextS (lxX m) (c :: r)).e⟩ := toksA_bad hd hn
        rw [this]
        exact ⟨(fun t h => by cases h), show a + runS whites l ≤ N by omega, Nat.zero_le _⟩
theorem toksS_ok (m : Int) (w : World) (hw : OKW m w) (l : Bs) : (∀ t ∈ (toksS (lxX m) l).l, tkOK t ∧ t.a ≤ l.length) ∧ (toksS (lxX m) l).n ≤ l.length ∧ (toksS (lxX m) l).l.length ≤ 65536 := by
  unfold toksS
  split
  · exact ⟨(fun t h => by cases h), Nat.zero_le _, Nat.zero_le _⟩
  · obtain ⟨g1, g2, g3⟩ := toksA_ok m w hw l.length (l.length + 1) 0 l [] (by omega) (by omega) (fun t h => by cases h)
    rw [List.length_nil] at g3
    exact ⟨g1, g2, by omega⟩
end Go.Proofs.YtkkeplmaphcblaaGreatDoor

namespace Go.Proofs.YtkkeplmaphcblaaGreatDoor
open Go.RowKit

set_option maxHeartbeats 4000000 in
set_option maxRecDepth 100000 in
theorem newp_any (m : Int) (s : ByteArray) (l : Bs) (hl : s.data.toList = l) (w : World) (hw : OKW m w) :
    Calls Tryz.prog 41 #[.string s] w fun e w' => ∃ b A c, e = .returned (.pointer (some ⟨b, 0, none⟩)) ∧ w.heap.size ≤ b ∧ PB w' b A c (newP (toksS (lxX m) l) l.length) ∧ Below w.heap.size w w' := by
  have H1 := Lib.hid (tokens_all (lxX m) m (lx_ok m) s l hl w hw)
  obtain ⟨T, hT⟩ : ∃ T, toksS (lxX m) l = T := ⟨_, rfl⟩
  have hbig : T.l.length ≤ 100000 := by have := (toksS_ok m w hw l).2.2; rw [hT] at this; omega
  have hsz : (s.size : Int) = (l.length : Int) := by rw [← hl]; simp
  rw [hT] at H1 ⊢
  have HB := Lib.hid hbig
  have HS := Lib.hid hsz
  clear hl hw hT hbig hsz
  go_enter Tryz.func41, Tryz.ntmps41
  go_wp2_with fail
  refine H1.out.mono ?_
  rintro e w1 ⟨⟨A, c, rfl, hTM, hc, hcm⟩, hb1⟩
  have K1 := Lib.hid hTM
  clear hTM
  go_wp2_with fail
  go_returns
  refine ⟨w1.heap.size, A, c, rfl, hb1.size, ⟨?_, ?_, ?_, Nat.zero_le _, HB.out⟩, by (repeat' (first | (with_reducible exact Below.refl _ _) | (with_reducible assumption) | (with_reducible refine balloc ?_ _) | (with_reducible refine Below.drew ?_) | (with_reducible refine bset ?_ ?_ _) | (with_reducible refine bstep ?_ (by with_reducible assumption)) | (with_reducible refine bturn ?_ (by with_reducible assumption) ?_) | go_size))⟩
  · rw [HS.out]
    exact Blk.new _ _ _
  · exact K1.out.step ((Below.refl _ _).alloc (Nat.le_refl _) _)
  · rintro i t g o ht rfl
    obtain ⟨g', o', e', hc'⟩ := K1.out i t ht
    injection e' with e'
    injection e' with e1 e2
    have := block_lt_of_cell (hc' 0 _ rfl)
    simp only at this
    omega

set_option maxHeartbeats 8000000 in
set_option maxRecDepth 100000 in
theorem value_none (b : Nat) (A : Option Addr) (c : Nat) (p : PS) (w : World) (h : PB w b A c p) (hv : ¬ p.e = 0 ∨ p.L.length ≤ p.nx) :
    Calls Tryz.prog 168 #[.pointer (some ⟨b, 0, none⟩)] w fun e w' => e = .returned (.tuple #[.agg #[.int .i64 0, .int .i64 0, .int .i64 0, .string ⟨#[]⟩, .int .i64 0], .bool false]) ∧ Below w.heap.size w w' := by
  have H := Lib.hid h
  by_cases he : p.e = 0
  · have hni : (p.L.length : Int) ≤ (p.nx : Int) := by
      rcases hv with h | h
      · exact absurd he h
      · omega
    have hbp := (h).blk; have hlp := hbp.lt; have hllp := lts hlp; have qp0 := hbp.cell 0; have qp1 := hbp.cell 1; have qp2 := hbp.cell 2; have qp3 := hbp.cell 3; have qp4 := hbp.cell 4; have qp5 := hbp.cell 5; simp at qp0 qp1 qp2 qp3 qp4 qp5; have zp0 := hbp.frozen 0; have zp1 := hbp.frozen 1; have zp2 := hbp.frozen 2; have zp3 := hbp.frozen 3; have zp4 := hbp.frozen 4; have zp5 := hbp.frozen 5; have Hhbp := Lib.hid hbp; clear hbp
    rw [he] at qp4
    clear h he hv
    go_enter Tryz.func168, Tryz.ntmps168
    go_wp2_with fail
    go_quiet (fail)
    have k1 : Blk ((w.alloc (.cells #[.int .i64 0, .int .i64 0, .int .i64 0, .string ⟨#[]⟩, .int .i64 0] 25)).drewN nq) w.heap.size 25 #[.int .i64 0, .int .i64 0, .int .i64 0, .string ⟨#[]⟩, .int .i64 0] := (Blk.new _ _ _).drewN nq
    go_wp2_with (refine wpList_store_blk k1 rfl _ _ _ (by rfl) _ (by rfl) (by rfl) (by (repeat (first | (with_reducible exact k1) | (with_reducible refine Blk.alloc ?_ _) | (with_reducible refine Blk.drew ?_) | (with_reducible refine Blk.far ?_ (by first | (simp; done) | (simp; omega)) _) | (with_reducible refine Blk.turn ?_ (by with_reducible assumption) (by omega))))) (by rfl) (by kernel_rfl) (by simp [Value.oneCell']) ?_; intro wt k1n ht)
    refine ret_blk2 rfl k1n rfl Tryz.underlying25 rfl (by kernel_rfl) rfl ?_
    exact ⟨rfl, by (repeat' (first | (with_reducible refine bdrewN ?_ _) | (with_reducible exact Below.refl _ _) | (with_reducible assumption) | (with_reducible refine balloc ?_ _) | (with_reducible refine Below.drew ?_) | (with_reducible refine bset ?_ ?_ _) | (with_reducible refine bstep ?_ (by with_reducible assumption)) | (with_reducible refine bturn ?_ (by with_reducible assumption) ?_) | go_size))⟩
  · have heb : (p.e != 0) = true := by simpa using he
    have hbp := (h).blk; have hlp := hbp.lt; have hllp := lts hlp; have qp0 := hbp.cell 0; have qp1 := hbp.cell 1; have qp2 := hbp.cell 2; have qp3 := hbp.cell 3; have qp4 := hbp.cell 4; have qp5 := hbp.cell 5; simp at qp0 qp1 qp2 qp3 qp4 qp5; have zp0 := hbp.frozen 0; have zp1 := hbp.frozen 1; have zp2 := hbp.frozen 2; have zp3 := hbp.frozen 3; have zp4 := hbp.frozen 4; have zp5 := hbp.frozen 5; have Hhbp := Lib.hid hbp; clear hbp
    clear h hv
    go_enter Tryz.func168, Tryz.ntmps168
    go_wp2_with fail
    go_quiet (fail)
    have k1 : Blk ((w.alloc (.cells #[.int .i64 0, .int .i64 0, .int .i64 0, .string ⟨#[]⟩, .int .i64 0] 25)).drewN nq) w.heap.size 25 #[.int .i64 0, .int .i64 0, .int .i64 0, .string ⟨#[]⟩, .int .i64 0] := (Blk.new _ _ _).drewN nq
    go_wp2_with (refine wpList_store_blk k1 rfl _ _ _ (by rfl) _ (by rfl) (by rfl) (by (repeat (first | (with_reducible exact k1) | (with_reducible refine Blk.alloc ?_ _) | (with_reducible refine Blk.drew ?_) | (with_reducible refine Blk.far ?_ (by first | (simp; done) | (simp; omega)) _) | (with_reducible refine Blk.turn ?_ (by with_reducible assumption) (by omega))))) (by rfl) (by kernel_rfl) (by simp [Value.oneCell']) ?_; intro wt k1n ht)
    refine ret_blk2 rfl k1n rfl Tryz.underlying25 rfl (by kernel_rfl) rfl ?_
    exact ⟨rfl, by (repeat' (first | (with_reducible refine bdrewN ?_ _) | (with_reducible exact Below.refl _ _) | (with_reducible assumption) | (with_reducible refine balloc ?_ _) | (with_reducible refine Below.drew ?_) | (with_reducible refine bset ?_ ?_ _) | (with_reducible refine bstep ?_ (by with_reducible assumption)) | (with_reducible refine bturn ?_ (by with_reducible assumption) ?_) | go_size))⟩

/-- A value's cells. -/
def cellsV (v : Vl) : Array Value := #[.int .i64 v.k, .int .i64 v.n, .int .i64 v.s, .string (bs v.t), .int .i64 v.m]
end Go.Proofs.YtkkeplmaphcblaaGreatDoor

namespace Go.Proofs.YtkkeplmaphcblaaGreatDoor
open Go.RowKit
open Go.Lib hiding intOf

/-- Tokens alike but for their places. -/
def like : List Tk → List Tk → Prop
  | [], [] => True
  | t :: a, u :: b => (u.k = t.k ∧ u.t = t.t ∧ u.n = t.n ∧ u.s = t.s ∧ u.m = t.m) ∧ like a b
  | _, _ => False
/-- A text has these tokens, wherever they stand. -/
def Reads (x : Lx) (l : Bs) (T : List Tk) : Prop := ∀ (a : Nat) (acc : List Tk), ∃ T', toksF x a l acc = ⟨acc ++ T', 0, 0⟩ ∧ like T T'
theorem reads_nil (x : Lx) : Reads x [] [] := fun a acc => ⟨[], by rw [toksF_nil, List.append_nil], trivial⟩
theorem reads_blank {x : Lx} {M : Bs} {T : List Tk} (h : Reads x M T) : Reads x (32 :: M) T := fun a acc => by
  rw [toksF_blank]
  exact h (a + 1) acc
theorem reads_tok {x : Lx} {o M : Bs} {t : Tk} {T : List Tk} (hn : nextS x o = ⟨t, o.length, 0⟩) (hw : runS whites o = 0) (hM : Stop M) (h : Reads x M T) : Reads x (o ++ M) (t :: T) := fun a acc => by
  obtain ⟨T', h1, h2⟩ := h (a + o.length) (acc ++ [{ t with a := a }])
  refine ⟨{ t with a := a } :: T', ?_, ⟨rfl, rfl, rfl, rfl, rfl⟩, h2⟩
  rw [toksF_tok hn hw hM, h1]
  simp
def sg (g : Bs) : Tk := ⟨5, 0, g, 0, 0, 0⟩
def nm (g : Bs) : Tk := ⟨4, 0, g, 0, 0, 0⟩
/-- A sign that does not hang on what follows. -/
theorem reads_sign {x : Lx} {g M : Bs} {T : List Tk} (hn : nextS x (g ++ M) = ⟨sg g, g.length, 0⟩) (hw : runS whites (g ++ M) = 0) (hg : g ≠ []) (h : Reads x M T) : Reads x (g ++ M) (sg g :: T) := fun a acc => by
  obtain ⟨T', h1, h2⟩ := h (a + g.length) (acc ++ [{ sg g with a := a }])
  refine ⟨{ sg g with a := a } :: T', ?_, ⟨rfl, rfl, rfl, rfl, rfl⟩, h2⟩
  obtain ⟨c, r, hc⟩ : ∃ c r, g ++ M = c :: r := by
    cases g with
    | nil => exact absurd rfl hg
    | cons c r => exact ⟨c, _, rfl⟩
  have hgo := toksA_go (x := x) (f := (g ++ M).length) (a := a) (l := g ++ M) (acc := acc) (c := c) (r := r) (by rw [hw, hc]; rfl) (by rw [← hc, hn])
  rw [← hc, hn, hw] at hgo
  have hd : (g ++ M).drop g.length = M := by simp
  rw [hd] at hgo
  have hgl : 1 ≤ g.length := by cases g with | nil => exact absurd rfl hg | cons c r => simp
  refine hgo.trans ?_
  rw [toksF_fuel x (by rw [List.length_append]; omega), show a + 0 + g.length = a + g.length by omega]
  refine h1.trans ?_
  simp
theorem reads_open {x : Lx} {M : Bs} {T : List Tk} (h : Reads x M T) : Reads x (40 :: M) (sg [40] :: T) := reads_sign (g := [40]) rfl rfl (by decide) h
theorem reads_close {x : Lx} {M : Bs} {T : List Tk} (h : Reads x M T) : Reads x (41 :: M) (sg [41] :: T) := reads_sign (g := [41]) rfl rfl (by decide) h
theorem reads_lb {x : Lx} {M : Bs} {T : List Tk} (h : Reads x M T) : Reads x (91 :: M) (sg [91] :: T) := reads_sign (g := [91]) rfl rfl (by decide) h
theorem reads_rb {x : Lx} {M : Bs} {T : List Tk} (h : Reads x M T) : Reads x (93 :: M) (sg [93] :: T) := reads_sign (g := [93]) rfl rfl (by decide) h
theorem reads_comma {x : Lx} {M : Bs} {T : List Tk} (h : Reads x M T) : Reads x (44 :: M) (sg [44] :: T) := reads_sign (g := [44]) rfl rfl (by decide) h
theorem reads_minus {x : Lx} {M : Bs} {T : List Tk} (h : Reads x M T) : Reads x (45 :: M) (sg [45] :: T) := reads_sign (g := [45]) rfl rfl (by decide) h
theorem reads_dots {x : Lx} {M : Bs} {T : List Tk} (h : Reads x M T) : Reads x (46 :: 46 :: M) (sg [46, 46] :: T) := reads_sign (g := [46, 46]) rfl rfl (by decide) h

/-- May it be a value? -/
def vSound (v : Vl) : Prop :=
  (v.k = 0 ∧ v.n = 0 ∧ v.s = 0 ∧ v.t = [] ∧ v.m = 0) ∨ (v.k = 1 ∧ soundS v.n v.s = true ∧ v.t = [] ∧ v.m = 0) ∨ (v.k = 2 ∧ v.n = 0 ∧ v.s = 0 ∧ v.m = 0 ∧ v.t.length ≤ 256 ∧ goodS (bs v.t) = true) ∨ (v.k = 3 ∧ v.n = 0 ∧ v.s = 0 ∧ v.t = [] ∧ (v.m = 0 ∨ v.m = 1)) ∨ (v.k = 4 ∧ v.n = 0 ∧ v.s = 0 ∧ v.t = [] ∧ 0 ≤ v.m ∧ v.m ≤ 3652058)
/-- A value as it is written. -/
noncomputable def vtxt (v : Vl) : Bs :=
  if v.k = 1 then (dT v.n v.s).1 else if v.k = 2 then 34 :: (escB v.t ++ [34]) else if v.k = 3 then (if v.m = 0 then falseB else trueB) else if v.k = 4 then 64 :: 34 :: ((yT v.m).1 ++ [34]) else nullB
/-- The tokens of a value. -/
def vtoks (v : Vl) : List Tk :=
  if v.k = 1 then (if v.n < 0 then [sg [45], ⟨1, 0, [], -v.n, v.s, 0⟩] else [⟨1, 0, [], v.n, v.s, 0⟩])
  else if v.k = 2 then [⟨2, 0, v.t, 0, 0, 0⟩] else if v.k = 3 then [nm (if v.m = 0 then falseB else trueB)] else if v.k = 4 then [⟨3, 0, [], 0, 0, v.m⟩] else [nm nullB]
theorem num_next (m : Int) (w : World) (hw : OKW m w) (n s : Int) (h0 : ¬ n < 0) (sd : soundS n s = true) : nextS (lxX m) (textU n.toNat s.toNat) = ⟨⟨1, 0, [], n, s, 0⟩, (textU n.toNat s.toNat).length, 0⟩ ∧ runS whites (textU n.toNat s.toNat) = 0 := by
  obtain ⟨b1, b2, b3, b4, _⟩ := sound_bd sd
  have hm0 : decide (n < 0) = false := decide_eq_false h0
  have hmg : mag n = n := by unfold mag; rw [if_neg h0]
  obtain ⟨c', r', h1, h2⟩ := text_head n.toNat s.toNat
  have hnx : nextS (lxX m) (textU n.toNat s.toNat) = numS (lxX m) (textU n.toNat s.toNat) := by
    rw [h1]
    unfold nextS
    exact if_pos h2
  have hl := textU_len (N := n.toNat) (sc := s.toNat) (by omega) (by omega)
  refine ⟨?_, ?_⟩
  · rw [hnx]
    unfold numS
    rw [numLen_text, List.take_length]
    have hb := parse_back n s n.toNat s.toNat sd (by omega) (by rw [hmg]; omega) (bs (textU n.toNat s.toNat)) (by rw [hm0]; rfl) m w hw.hm
    obtain ⟨g1, g2, g3⟩ := lxP_eq m w hw _ (by omega) hb
    have hP : (lxX m).P (textU n.toNat s.toNat) = lxP m (textU n.toNat s.toNat) := rfl
    rw [hP, g1, g2, g3]
  · rw [h1, runS_cons]
    split
    · rename_i hc
      exfalso
      have h3 : c' = 32 ∨ c' = 9 ∨ c' = 13 ∨ c' = 10 := by
        rw [List.contains_iff_mem] at hc
        simpa [whites] using hc
      rcases h3 with rfl | rfl | rfl | rfl <;> cases h2
    · rfl
theorem sound_neg {n s : Int} (h : soundS n s = true) : soundS (-n) s = true := by
  rw [sound_iff] at h ⊢
  unfold soundB at h ⊢
  have h2 := of_decide_eq_true h
  have hb := big_def
  exact decide_eq_true ⟨h2.1, h2.2.1, by omega, by omega, by omega⟩
/-- A value's text has the value's tokens. -/
theorem reads_val (m : Int) (w : World) (hw : OKW m w) {v : Vl} (hv : vSound v) {M : Bs} {T : List Tk} (hM : Stop M) (h : Reads (lxX m) M T) : Reads (lxX m) (vtxt v ++ M) (vtoks v ++ T) := by
  obtain ⟨k, n, s, t, mm⟩ := v
  rcases hv with ⟨h1, h2, h3, h4, h5⟩ | ⟨h1, h2, h3, h4⟩ | ⟨h1, h2, h3, h4, h5, h6⟩ | ⟨h1, h2, h3, h4, h5⟩ | ⟨h1, h2, h3, h4, h5, h6⟩
  · simp only at h1 h2 h3 h4 h5
    subst h1 h2 h3 h4 h5
    exact reads_tok (o := nullB) (t := nm nullB) rfl rfl hM h
  · simp only at h1 h2 h3 h4
    subst h1 h3 h4
    by_cases hn : n < 0
    · have hd : dT n s = (45 :: textU (-n).toNat s.toNat, 0) := by
        unfold dT
        rw [if_pos h2, decide_eq_true hn]
        have : mag n = -n := by unfold mag; rw [if_pos hn]
        rw [this]
        rfl
      obtain ⟨g1, g2⟩ := num_next m w hw (-n) s (by omega) (sound_neg h2)
      have e1 : vtxt ⟨1, n, s, [], 0⟩ = 45 :: textU (-n).toNat s.toNat := by simp [vtxt, hd]
      have e2 : vtoks ⟨1, n, s, [], 0⟩ = [sg [45], ⟨1, 0, [], -n, s, 0⟩] := by simp [vtoks, hn]
      rw [e1, e2]
      exact reads_minus (reads_tok g1 g2 hM h)
    · have hd : dT n s = (textU n.toNat s.toNat, 0) := by
        unfold dT
        rw [if_pos h2, decide_eq_false hn]
        have : mag n = n := by unfold mag; rw [if_neg hn]
        rw [this]
        rfl
      obtain ⟨g1, g2⟩ := num_next m w hw n s hn h2
      have e1 : vtxt ⟨1, n, s, [], 0⟩ = textU n.toNat s.toNat := by simp [vtxt, hd]
      have e2 : vtoks ⟨1, n, s, [], 0⟩ = [⟨1, 0, [], n, s, 0⟩] := by simp [vtoks, hn]
      rw [e1, e2]
      exact reads_tok g1 g2 hM h
  · simp only at h1 h2 h3 h4 h5 h6
    subst h1 h2 h3 h4
    have e1 : vtxt ⟨2, 0, 0, t, 0⟩ = 34 :: (escB t ++ [34]) := by simp [vtxt]
    have e2 : vtoks ⟨2, 0, 0, t, 0⟩ = [⟨2, 0, t, 0, 0, 0⟩] := by simp [vtoks]
    rw [e1, e2]
    refine reads_tok (o := 34 :: (escB t ++ [34])) ?_ rfl hM h
    show strS (lxX m) (escB t ++ 34 :: []) = _
    unfold strS
    rw [qS_esc]
    simp only
    rw [if_neg (by
      rintro (h | h)
      · omega
      · have hG : (lxX m).G t = goodS (bs t) := rfl
        rw [hG, h6] at h
        cases h)]
    simp
  · simp only at h1 h2 h3 h4 h5
    subst h1 h2 h3 h4
    rcases h5 with rfl | rfl
    · exact reads_tok (o := falseB) (t := nm falseB) rfl rfl hM h
    · exact reads_tok (o := trueB) (t := nm trueB) rfl rfl hM h
  · simp only at h1 h2 h3 h4 h5 h6
    subst h1 h2 h3 h4
    obtain ⟨l, l10, lb, lt, lp⟩ := Days.text_read mm h5 h6
    obtain ⟨y1, y2⟩ := yT_eq m w hw mm (lt w hw.tab)
    have e1 : vtxt ⟨4, 0, 0, [], mm⟩ = 64 :: 34 :: (l ++ [34]) := by simp [vtxt, y1]
    have e2 : vtoks ⟨4, 0, 0, [], mm⟩ = [⟨3, 0, [], 0, 0, mm⟩] := by simp [vtoks]
    rw [e1, e2]
    refine reads_tok (o := 64 :: 34 :: (l ++ [34])) ?_ rfl hM h
    show dateS (lxX m) (34 :: (l ++ 34 :: [])) = _
    obtain ⟨g1, g2⟩ := lxD_eq m w hw l (by omega) (lp m w hw.hm)
    have hDl : (lxX m).D l = (mm, 0) := by
      show lxD m l = _
      rw [← g1, ← g2]
    have hqd : quoD (34 :: (l ++ 34 :: [])) = some (l, 11) := by
      unfold quoD
      rw [if_pos (show (34 :: (l ++ 34 :: [])).head? = some 34 from rfl)]
      show qS (l ++ 34 :: []) = _
      rw [qS_plain l [] lb, l10]
    unfold dateS
    rw [hqd]
    simp only [hDl]
    rw [if_neg (by simp)]
    simp [l10]
end Go.Proofs.YtkkeplmaphcblaaGreatDoor

namespace Go.Proofs.YtkkeplmaphcblaaGreatDoor
open Go.RowKit
open Go.Lib hiding intOf

/-- Are two values one? -/
def vlq (a b c : Int) (d : ByteArray) (f a' b' c' : Int) (d' : ByteArray) (f' : Int) : Bool := a == a' && (b == b' && (c == c' && (d.toList == d'.toList && f == f')))
theorem run_vl_eql (w : World) (a b c : Int) (d : ByteArray) (f a' b' c' : Int) (d' : ByteArray) (f' : Int) :
    (binOp .eql 25 (.agg #[.int .i64 a, .int .i64 b, .int .i64 c, .string d, .int .i64 f]) (.agg #[.int .i64 a', .int .i64 b', .int .i64 c', .string d', .int .i64 f'])).run Tryz.prog w
      = .ok (.bool (vlq a b c d f a' b' c' d' f')) w := by
  go_simp
  unfold vlq
  by_cases h1 : a = a' <;> by_cases h2 : b = b' <;> by_cases h3 : c = c' <;> by_cases h4 : d.toList = d'.toList <;> by_cases h5 : f = f' <;> simp [h1, h2, h3, h4, h5]
theorem run_vl_neq (w : World) (a b c : Int) (d : ByteArray) (f a' b' c' : Int) (d' : ByteArray) (f' : Int) :
    (binOp .neq 25 (.agg #[.int .i64 a, .int .i64 b, .int .i64 c, .string d, .int .i64 f]) (.agg #[.int .i64 a', .int .i64 b', .int .i64 c', .string d', .int .i64 f'])).run Tryz.prog w
      = .ok (.bool (!vlq a b c d f a' b' c' d' f')) w := by
  go_simp
  unfold vlq
  by_cases h1 : a = a' <;> by_cases h2 : b = b' <;> by_cases h3 : c = c' <;> by_cases h4 : d.toList = d'.toList <;> by_cases h5 : f = f' <;> simp [h1, h2, h3, h4, h5]
attribute [local go_sem high] run_vl_eql run_vl_neq

def e0B : ByteArray := ⟨#[]⟩
/-- What value.Sound says. -/
def vS (k n s : Int) (q : ByteArray) (m : Int) : Bool :=
  if k = 0 then vlq 0 n s q m 0 0 0 ⟨#[]⟩ 0
  else if k = 1 then vlq 1 n s q m 1 n s ⟨#[]⟩ 0 && soundS n s
  else if k = 2 then vlq 2 n s q m 2 0 0 q 0 && (decide ((q.size : Int) ≤ 256) && goodS q)
  else if k = 3 then vlq 3 n s q m 3 0 0 ⟨#[]⟩ (bits .and .i64 m 1)
  else if k = 4 then vlq 4 n s q m 4 0 0 ⟨#[]⟩ (max 0 (min m 3652058))
  else false
set_option maxHeartbeats 8000000 in
set_option maxRecDepth 100000 in
theorem vs_0 (n s : Int) (q : ByteArray) (m : Int) (w : World) :
    Calls Tryz.prog 48 #[.agg #[.int .i64 0, .int .i64 n, .int .i64 s, .string q, .int .i64 m]] w fun e w' => e = .returned (.bool (vlq 0 n s q m 0 0 0 ⟨#[]⟩ 0)) ∧ Below w.heap.size w w' := by
  go_enter Tryz.func48, Tryz.ntmps48
  go_wp2_with fail
  go_returns
  exact ⟨rfl, by (repeat' (first | (with_reducible refine bdrewN ?_ _) | (with_reducible exact Below.refl _ _) | (with_reducible assumption) | (with_reducible refine balloc ?_ _) | (with_reducible refine Below.drew ?_) | (with_reducible refine bset ?_ ?_ _) | (with_reducible refine bstep ?_ (by with_reducible assumption)) | (with_reducible refine bturn ?_ (by with_reducible assumption) ?_) | go_size))⟩
set_option maxHeartbeats 8000000 in
set_option maxRecDepth 100000 in
theorem vs_4 (n s : Int) (q : ByteArray) (m : Int) (w : World) :
    Calls Tryz.prog 48 #[.agg #[.int .i64 4, .int .i64 n, .int .i64 s, .string q, .int .i64 m]] w fun e w' => e = .returned (.bool (vlq 4 n s q m 4 0 0 ⟨#[]⟩ (max 0 (min m 3652058)))) ∧ Below w.heap.size w w' := by
  go_enter Tryz.func48, Tryz.ntmps48
  go_wp2_with fail
  go_returns
  exact ⟨rfl, by (repeat' (first | (with_reducible refine bdrewN ?_ _) | (with_reducible exact Below.refl _ _) | (with_reducible assumption) | (with_reducible refine balloc ?_ _) | (with_reducible refine Below.drew ?_) | (with_reducible refine bset ?_ ?_ _) | (with_reducible refine bstep ?_ (by with_reducible assumption)) | (with_reducible refine bturn ?_ (by with_reducible assumption) ?_) | go_size))⟩
set_option maxHeartbeats 8000000 in
set_option maxRecDepth 100000 in
theorem vs_3 (n s : Int) (q : ByteArray) (m : Int) (w : World) :
    Calls Tryz.prog 48 #[.agg #[.int .i64 3, .int .i64 n, .int .i64 s, .string q, .int .i64 m]] w fun e w' => e = .returned (.bool (vlq 3 n s q m 3 0 0 ⟨#[]⟩ (bits .and .i64 m 1))) ∧ Below w.heap.size w w' := by
  go_enter Tryz.func48, Tryz.ntmps48
  go_wp2_with fail
  go_returns
  exact ⟨rfl, by (repeat' (first | (with_reducible refine bdrewN ?_ _) | (with_reducible exact Below.refl _ _) | (with_reducible assumption) | (with_reducible refine balloc ?_ _) | (with_reducible refine Below.drew ?_) | (with_reducible refine bset ?_ ?_ _) | (with_reducible refine bstep ?_ (by with_reducible assumption)) | (with_reducible refine bturn ?_ (by with_reducible assumption) ?_) | go_size))⟩
set_option maxHeartbeats 8000000 in
set_option maxRecDepth 100000 in
theorem vs_no (k n s : Int) (q : ByteArray) (m : Int) (h0 : ¬ k = 0) (h1 : ¬ k = 1) (h2 : ¬ k = 2) (h3 : ¬ k = 3) (h4 : ¬ k = 4) (w : World) :
    Calls Tryz.prog 48 #[.agg #[.int .i64 k, .int .i64 n, .int .i64 s, .string q, .int .i64 m]] w fun e w' => e = .returned (.bool false) ∧ Below w.heap.size w w' := by
  go_enter Tryz.func48, Tryz.ntmps48
  go_wp2_with fail
  go_returns
  exact ⟨rfl, by (repeat' (first | (with_reducible refine bdrewN ?_ _) | (with_reducible exact Below.refl _ _) | (with_reducible assumption) | (with_reducible refine balloc ?_ _) | (with_reducible refine Below.drew ?_) | (with_reducible refine bset ?_ ?_ _) | (with_reducible refine bstep ?_ (by with_reducible assumption)) | (with_reducible refine bturn ?_ (by with_reducible assumption) ?_) | go_size))⟩
set_option maxHeartbeats 8000000 in
set_option maxRecDepth 100000 in
theorem vs_1 (n s : Int) (q : ByteArray) (m : Int) (hn : I64 n) (hs : I64 s) (w : World) :
    Calls Tryz.prog 48 #[.agg #[.int .i64 1, .int .i64 n, .int .i64 s, .string q, .int .i64 m]] w fun e w' => e = .returned (.bool (vlq 1 n s q m 1 n s ⟨#[]⟩ 0 && soundS n s)) ∧ Below w.heap.size w w' := by
  have KS := Lib.hid (sound_any n s hn.1 hn.2 hs.1 hs.2)
  cases hv : vlq 1 n s q m 1 n s ⟨#[]⟩ 0 with
  | false =>
    go_enter Tryz.func48, Tryz.ntmps48
    go_wp2_with fail
    go_returns
    exact ⟨rfl, by (repeat' (first | (with_reducible refine bdrewN ?_ _) | (with_reducible exact Below.refl _ _) | (with_reducible assumption) | (with_reducible refine balloc ?_ _) | (with_reducible refine Below.drew ?_) | (with_reducible refine bset ?_ ?_ _) | (with_reducible refine bstep ?_ (by with_reducible assumption)) | (with_reducible refine bturn ?_ (by with_reducible assumption) ?_) | go_size))⟩
  | true =>
    go_enter Tryz.func48, Tryz.ntmps48
    go_wp2_with (go_at_call 80; refine (KS.out _).mono ?_; rintro e w1 ⟨rfl, hb1⟩)
    go_returns
    exact ⟨rfl, by (repeat' (first | (with_reducible refine bdrewN ?_ _) | (with_reducible exact Below.refl _ _) | (with_reducible assumption) | (with_reducible refine balloc ?_ _) | (with_reducible refine Below.drew ?_) | (with_reducible refine bset ?_ ?_ _) | (with_reducible refine bstep ?_ (by with_reducible assumption)) | (with_reducible refine bturn ?_ (by with_reducible assumption) ?_) | go_size))⟩
set_option maxHeartbeats 8000000 in
set_option maxRecDepth 100000 in
theorem vs_2 (n s : Int) (q : ByteArray) (m : Int) (mm : Int) (w : World) (hw : OKW mm w) :
    Calls Tryz.prog 48 #[.agg #[.int .i64 2, .int .i64 n, .int .i64 s, .string q, .int .i64 m]] w fun e w' => e = .returned (.bool (vlq 2 n s q m 2 0 0 q 0 && (decide ((q.size : Int) ≤ 256) && goodS q))) ∧ Below w.heap.size w w' := by
  have KS := Lib.hid (fun W hW => good_any q (goodS q) rfl W hW)
  have HT := Lib.hid (fun W (hb : Below w.heap.size w W) => (hw.step hb).u8)
  cases hv : vlq 2 n s q m 2 0 0 q 0 with
  | false =>
    go_enter Tryz.func48, Tryz.ntmps48
    go_wp2_with fail
    go_returns
    exact ⟨rfl, by (repeat' (first | (with_reducible refine bdrewN ?_ _) | (with_reducible exact Below.refl _ _) | (with_reducible assumption) | (with_reducible refine balloc ?_ _) | (with_reducible refine Below.drew ?_) | (with_reducible refine bset ?_ ?_ _) | (with_reducible refine bstep ?_ (by with_reducible assumption)) | (with_reducible refine bturn ?_ (by with_reducible assumption) ?_) | go_size))⟩
  | true =>
    by_cases hl : (q.size : Int) ≤ 256
    · rw [decide_eq_true hl]
      go_enter Tryz.func48, Tryz.ntmps48
      go_wp2_with (go_at_call 81; refine (KS.out _ (HT.out _ (by (repeat' (first | (with_reducible exact Below.refl _ _) | (with_reducible assumption) | (with_reducible refine balloc ?_ _) | (with_reducible refine Below.drew ?_) | (with_reducible refine bset ?_ ?_ _) | (with_reducible refine bstep ?_ (by with_reducible assumption)) | (with_reducible refine bturn ?_ (by with_reducible assumption) ?_) | go_size))))).mono ?_; rintro e w1 ⟨rfl, hb1⟩)
      go_returns
      exact ⟨rfl, by (repeat' (first | (with_reducible refine bdrewN ?_ _) | (with_reducible exact Below.refl _ _) | (with_reducible assumption) | (with_reducible refine balloc ?_ _) | (with_reducible refine Below.drew ?_) | (with_reducible refine bset ?_ ?_ _) | (with_reducible refine bstep ?_ (by with_reducible assumption)) | (with_reducible refine bturn ?_ (by with_reducible assumption) ?_) | go_size))⟩
    · rw [decide_eq_false hl]
      go_enter Tryz.func48, Tryz.ntmps48
      go_wp2_with fail
      go_returns
      exact ⟨rfl, by (repeat' (first | (with_reducible refine bdrewN ?_ _) | (with_reducible exact Below.refl _ _) | (with_reducible assumption) | (with_reducible refine balloc ?_ _) | (with_reducible refine Below.drew ?_) | (with_reducible refine bset ?_ ?_ _) | (with_reducible refine bstep ?_ (by with_reducible assumption)) | (with_reducible refine bturn ?_ (by with_reducible assumption) ?_) | go_size))⟩
theorem vs_any (k n s : Int) (q : ByteArray) (m : Int) (hn : I64 n) (hs : I64 s) (mm : Int) (w : World) (hw : OKW mm w) :
    Calls Tryz.prog 48 #[.agg #[.int .i64 k, .int .i64 n, .int .i64 s, .string q, .int .i64 m]] w fun e w' => e = .returned (.bool (vS k n s q m)) ∧ Below w.heap.size w w' := by
  unfold vS
  by_cases h0 : k = 0
  · subst h0
    exact vs_0 n s q m w
  · rw [if_neg h0]
    by_cases h1 : k = 1
    · subst h1
      exact vs_1 n s q m hn hs w
    · rw [if_neg h1]
      by_cases h2 : k = 2
      · subst h2
        exact vs_2 n s q m mm w hw
      · rw [if_neg h2]
        by_cases h3 : k = 3
        · subst h3
          exact vs_3 n s q m w
        · rw [if_neg h3]
          by_cases h4 : k = 4
          · subst h4
            exact vs_4 n s q m w
          · rw [if_neg h4]
            exact vs_no k n s q m h0 h1 h2 h3 h4 w
end Go.Proofs.YtkkeplmaphcblaaGreatDoor

namespace Go.Proofs.YtkkeplmaphcblaaGreatDoor
open Go.RowKit

def vRank (v : Vl) : Prop := v.k = 1 ∨ v.k = 4
/-- May it be a single test? -/
def tSound (t : Tst) : Prop :=
  vSound t.lo ∧ vSound t.hi ∧ ((t.k = 6 ∧ vRank t.lo ∧ t.hi.k = t.lo.k) ∨ ((t.k = 1 ∨ (t.k = 2 ∨ t.k = 3 ∨ t.k = 4 ∨ t.k = 5) ∧ vRank t.lo) ∧ t.hi = zeroV ∧ t.ol = false ∧ t.oh = false))
def signT (k : Int) : Bs := if k = 2 then [60] else if k = 3 then [60, 61] else if k = 4 then [62] else [62, 61]
noncomputable def ttxt (t : Tst) : Bs :=
  if t.k = 1 then vtxt t.lo
  else if t.k = 6 then (if t.ol then 40 else 91) :: (vtxt t.lo ++ 46 :: 46 :: (vtxt t.hi ++ [if t.oh then 41 else 93]))
  else signT t.k ++ 32 :: vtxt t.lo
def ttoks (t : Tst) : List Tk :=
  if t.k = 1 then vtoks t.lo
  else if t.k = 6 then sg [if t.ol then 40 else 91] :: (vtoks t.lo ++ sg [46, 46] :: (vtoks t.hi ++ [sg [if t.oh then 41 else 93]]))
  else sg (signT t.k) :: vtoks t.lo
noncomputable def ltxt : List Tst → Bs
  | [] => []
  | [t] => ttxt t
  | t :: u :: r => ttxt t ++ 44 :: 32 :: ltxt (u :: r)
def ltoks : List Tst → List Tk
  | [] => []
  | [t] => ttoks t
  | t :: u :: r => ttoks t ++ sg [44] :: ltoks (u :: r)
theorem stop32 (M : Bs) : Stop (32 :: M) := stop_of rfl (by decide) (by decide)
theorem stop41 (M : Bs) : Stop (41 :: M) := stop_of rfl (by decide) (by decide)
theorem stop44 (M : Bs) : Stop (44 :: M) := stop_of rfl (by decide) (by decide)
theorem stop93 (M : Bs) : Stop (93 :: M) := stop_of rfl (by decide) (by decide)
theorem reads_test (m : Int) (w : World) (hw : OKW m w) {t : Tst} (ht : tSound t) {M : Bs} {T : List Tk} (hM : Stop M) (h : Reads (lxX m) M T) : Reads (lxX m) (ttxt t ++ M) (ttoks t ++ T) := by
  obtain ⟨h1, h2, h3⟩ := ht
  rcases h3 with ⟨k6, _, _⟩ | ⟨hk, _⟩
  · unfold ttxt ttoks
    rw [k6]
    simp only [show ¬ (6 : Int) = 1 by decide, if_false, if_true]
    have e1 : ∀ (a b : UInt8) (X Y : Bs), a :: (X ++ 46 :: 46 :: (Y ++ [b])) ++ M = a :: (X ++ (46 :: 46 :: (Y ++ (b :: M)))) := fun a b X Y => by simp
    have e2 : ∀ (a b : Tk) (X Y : List Tk), a :: (X ++ sg [46, 46] :: (Y ++ [b])) ++ T = a :: (X ++ (sg [46, 46] :: (Y ++ (b :: T)))) := fun a b X Y => by simp
    rw [e1, e2]
    have hc : Reads (lxX m) ((if t.oh then 41 else 93) :: M) (sg [if t.oh then 41 else 93] :: T) ∧ Stop ((if t.oh then 41 else 93) :: M) := by
      cases t.oh with
      | true => exact ⟨reads_close h, stop41 M⟩
      | false => exact ⟨reads_rb h, stop93 M⟩
    have hin := reads_val m w hw h1 (stop_dots _) (reads_dots (reads_val m w hw h2 hc.2 hc.1))
    cases t.ol with
    | true => exact reads_open hin
    | false => exact reads_lb hin
  · rcases hk with k1 | ⟨k2, _⟩
    · unfold ttxt ttoks
      rw [if_pos k1, if_pos k1]
      exact reads_val m w hw h1 hM h
    · have hin := reads_blank (reads_val m w hw h1 hM h)
      unfold ttxt ttoks
      rcases k2 with k | k | k | k <;> rw [k] <;> simp only [show ¬ (2 : Int) = 1 by decide, show ¬ (2 : Int) = 6 by decide, show ¬ (3 : Int) = 1 by decide, show ¬ (3 : Int) = 6 by decide, show ¬ (4 : Int) = 1 by decide, show ¬ (4 : Int) = 6 by decide, show ¬ (5 : Int) = 1 by decide, show ¬ (5 : Int) = 6 by decide, if_false, List.append_assoc, List.cons_append]
      · exact reads_tok (o := [60]) (t := sg [60]) rfl rfl (stop32 _) hin
      · exact reads_tok (o := [60, 61]) (t := sg [60, 61]) rfl rfl (stop32 _) hin
      · exact reads_tok (o := [62]) (t := sg [62]) rfl rfl (stop32 _) hin
      · exact reads_tok (o := [62, 61]) (t := sg [62, 61]) rfl rfl (stop32 _) hin
theorem reads_list (m : Int) (w : World) (hw : OKW m w) : ∀ (l : List Tst), (∀ t ∈ l, tSound t) → ∀ {M : Bs} {T : List Tk}, Stop M → Reads (lxX m) M T → Reads (lxX m) (ltxt l ++ M) (ltoks l ++ T)
  | [], _, M, T, _, h => h
  | [t], ht, M, T, hM, h => reads_test m w hw (ht t (List.mem_cons_self ..)) hM h
  | t :: u :: r, ht, M, T, hM, h => by
    have h2 := reads_list m w hw (u :: r) (fun v hv => ht v (List.mem_cons_of_mem _ hv)) hM h
    have h3 := reads_test m w hw (ht t (List.mem_cons_self ..)) (stop44 _) (reads_comma (reads_blank h2))
    have e1 : ltxt (t :: u :: r) ++ M = ttxt t ++ 44 :: 32 :: (ltxt (u :: r) ++ M) := by simp [ltxt]
    have e2 : ltoks (t :: u :: r) ++ T = ttoks t ++ sg [44] :: (ltoks (u :: r) ++ T) := by simp [ltoks]
    rw [e1, e2]
    exact h3

/-- The parser stands ahead of these tokens. -/
structure On (p : PS) (T : List Tk) : Prop where
  e : p.e = 0
  le : p.nx ≤ p.L.length
  lk : like T (p.L.drop p.nx)
section
variable {p : PS} {t : Tk} {T : List Tk}
theorem On.get (h : On p (t :: T)) : ∃ u, p.L[p.nx]? = some u ∧ (u.k = t.k ∧ u.t = t.t ∧ u.n = t.n ∧ u.s = t.s ∧ u.m = t.m) ∧ like T (p.L.drop (p.nx + 1)) ∧ p.nx < p.L.length := by
  have h1 := h.lk
  cases hd : p.L.drop p.nx with
  | nil => rw [hd] at h1; exact h1.elim
  | cons u r =>
    rw [hd] at h1
    have hlt : p.nx < p.L.length := by
      have := congrArg List.length hd
      rw [List.length_drop, List.length_cons] at this
      omega
    have h2 := List.drop_eq_getElem_cons hlt
    rw [hd] at h2
    injection h2 with h3 h4
    refine ⟨u, by rw [List.getElem?_eq_getElem hlt, ← h3], h1.1, by rw [← h4]; exact h1.2, hlt⟩
theorem On.is_ (h : On p (t :: T)) (s : Bs) : p.isS s = ((t.k == 4 || t.k == 5) && t.t == s) := by
  obtain ⟨u, hu, ⟨g1, g2, _⟩, _⟩ := h.get
  rw [isS_some h.e hu, g1, g2]
theorem On.end_ (h : On p []) : p.nx = p.L.length := by
  have h1 := h.lk
  cases hd : p.L.drop p.nx with
  | nil =>
    have := congrArg List.length hd
    rw [List.length_drop, List.length_nil] at this
    have := h.le
    omega
  | cons u r => rw [hd] at h1; exact h1.elim
theorem On.is_nil (h : On p []) (s : Bs) : p.isS s = false := isS_none (List.getElem?_eq_none (by rw [h.end_]; exact Nat.le_refl _))
theorem On.adv (h : On p (t :: T)) : On p.adv T := by
  obtain ⟨u, hu, _, g, hlt⟩ := h.get
  exact ⟨h.e, hlt, g⟩
theorem On.val (h : On p (t :: T)) : p.val = valT t := by
  obtain ⟨u, hu, ⟨g1, g2, g3, g4, g5⟩, _⟩ := h.get
  unfold PS.val
  rw [if_pos h.e, hu]
  simp only
  unfold valT
  rw [g1, g2, g3, g4, g5]
theorem On.need {s : Bs} (h : On p (sg s :: T)) : p.need s = p.adv ∧ On p.adv T := by
  refine ⟨?_, h.adv⟩
  unfold PS.need
  rw [h.is_]
  simp [sg]
end
/-- The first token of a value, and what it is not. -/
theorem vtoks_head {v : Vl} (hv : vSound v) : ∃ t r, vtoks v = t :: r ∧ ∀ s : Bs, s ≠ [45] → s ≠ nullB → s ≠ trueB → s ≠ falseB → ((t.k == 4 || t.k == 5) && t.t == s) = false := by
  obtain ⟨k, n, c, l, m⟩ := v
  rcases hv with ⟨h1, _⟩ | ⟨h1, _⟩ | ⟨h1, _⟩ | ⟨h1, _, _, _, h5⟩ | ⟨h1, _⟩ <;> simp only at h1 <;> subst h1
  · exact ⟨nm nullB, [], by simp [vtoks], fun s _ g _ _ => by simpa [nm] using fun e => g e.symm⟩
  · by_cases hn : n < 0
    · exact ⟨sg [45], [⟨1, 0, [], -n, c, 0⟩], by simp [vtoks, hn], fun s g _ _ _ => by simpa [sg] using fun e => g e.symm⟩
    · exact ⟨⟨1, 0, [], n, c, 0⟩, [], by simp [vtoks, hn], fun s _ _ _ _ => rfl⟩
  · exact ⟨⟨2, 0, l, 0, 0, 0⟩, [], by simp [vtoks], fun s _ _ _ _ => rfl⟩
  · simp only at h5
    rcases h5 with rfl | rfl
    · exact ⟨nm falseB, [], by simp [vtoks], fun s _ _ _ g4 => by simpa [nm] using fun e => g4 e.symm⟩
    · exact ⟨nm trueB, [], by simp [vtoks], fun s _ _ g3 _ => by simpa [nm] using fun e => g3 e.symm⟩
  · exact ⟨⟨3, 0, [], 0, 0, m⟩, [], by simp [vtoks], fun s _ _ _ _ => rfl⟩
theorem lit_on {p : PS} {v : Vl} {R : List Tk} (hv : vSound v) (h : On p (vtoks v ++ R)) : p.lit.1 = v ∧ On p.lit.2 R := by
  obtain ⟨k, n, s, l, m⟩ := v
  -- a value of one token
  have one : ∀ t : Tk, vtoks ⟨k, n, s, l, m⟩ = [t] → ((t.k == 4 || t.k == 5) && t.t == [45]) = false → valT t = some ⟨k, n, s, l, m⟩ → p.lit.1 = ⟨k, n, s, l, m⟩ ∧ On p.lit.2 R := by
    intro t ht h45 hval
    rw [ht] at h
    have h' : On p (t :: R) := h
    have hi : p.isS [45] = false := by rw [h'.is_, h45]
    have htk : p.take [45] = p := by unfold PS.take; rw [hi]; rfl
    have hv2 : p.val = some ⟨k, n, s, l, m⟩ := by rw [h'.val, hval]
    unfold PS.lit
    rw [htk, hv2, hi]
    simp only [Bool.false_eq_true, if_false]
    exact ⟨trivial, h'.adv⟩
  rcases hv with ⟨h1, h2, h3, h4, h5⟩ | ⟨h1, h2, h3, h4⟩ | ⟨h1, h2, h3, h4, h5, h6⟩ | ⟨h1, h2, h3, h4, h5⟩ | ⟨h1, h2, h3, h4, h5, h6⟩
  · simp only at h1 h2 h3 h4 h5
    subst h1 h2 h3 h4 h5
    exact one (nm nullB) rfl rfl rfl
  · simp only at h1 h2 h3 h4
    subst h1 h3 h4
    by_cases hn : n < 0
    · have e2 : vtoks ⟨1, n, s, [], 0⟩ = [sg [45], ⟨1, 0, [], -n, s, 0⟩] := by simp [vtoks, hn]
      rw [e2] at h
      have h' : On p (sg [45] :: (⟨1, 0, [], -n, s, 0⟩ : Tk) :: R) := h
      have hi : p.isS [45] = true := by rw [h'.is_]; rfl
      have htk : p.take [45] = p.adv := by unfold PS.take; rw [hi]; rfl
      have hv2 : p.adv.val = some ⟨1, -n, s, [], 0⟩ := by rw [h'.adv.val]; rfl
      unfold PS.lit
      rw [htk, hv2, hi]
      simp only [if_true]
      refine ⟨?_, h'.adv.adv⟩
      rw [Int.neg_neg]
    · exact one ⟨1, 0, [], n, s, 0⟩ (by simp [vtoks, hn]) rfl rfl
  · simp only at h1 h2 h3 h4
    subst h1 h2 h3 h4
    exact one ⟨2, 0, l, 0, 0, 0⟩ (by simp [vtoks]) rfl rfl
  · simp only at h1 h2 h3 h4 h5
    subst h1 h2 h3 h4
    rcases h5 with rfl | rfl
    · exact one (nm falseB) (by simp [vtoks]) rfl rfl
    · exact one (nm trueB) (by simp [vtoks]) rfl rfl
  · simp only at h1 h2 h3 h4
    subst h1 h2 h3 h4
    exact one ⟨3, 0, [], 0, 0, m⟩ (by simp [vtoks]) rfl rfl
theorem rank_on {p : PS} {v : Vl} {R : List Tk} (hv : vSound v) (hr : vRank v) (h : On p (vtoks v ++ R)) : p.rank.1 = v ∧ On p.rank.2 R := by
  obtain ⟨h1, h2⟩ := lit_on hv h
  unfold PS.rank
  rw [if_neg (by
    rintro ⟨_, g1, g2⟩
    rw [h1] at g1 g2
    exact hr.elim g1 g2)]
  exact ⟨h1, h2⟩
theorem test_on {p : PS} {t : Tst} {R : List Tk} (ht : tSound t) (h : On p (ttoks t ++ R)) : p.test.1 = t ∧ On p.test.2 R := by
  obtain ⟨k, lo, hi, ol, oh⟩ := t
  obtain ⟨h1, h2, h3⟩ := ht
  simp only at h1 h2 h3
  rcases h3 with ⟨k6, hr, hk⟩ | ⟨hk, z1, z2, z3⟩
  · subst k6
    have e2 : ttoks ⟨6, lo, hi, ol, oh⟩ ++ R = sg [if ol then 40 else 91] :: (vtoks lo ++ (sg [46, 46] :: (vtoks hi ++ (sg [if oh then 41 else 93] :: R)))) := by simp [ttoks]
    rw [e2] at h
    have hop := h.is_
    have ha := h.adv
    obtain ⟨l1, l2⟩ := rank_on h1 hr ha
    obtain ⟨n1, n2⟩ := l2.need
    have hrh : vRank hi := by unfold vRank at hr ⊢; rw [hk]; exact hr
    obtain ⟨k1, k2⟩ := rank_on h2 hrh n2
    have hcl := k2.is_
    have c1 : p.isS [60] = false := by rw [hop]; cases ol <;> rfl
    have c2 : p.isS [60, 61] = false := by rw [hop]; cases ol <;> rfl
    have c3 : p.isS [62] = false := by rw [hop]; cases ol <;> rfl
    have c4 : p.isS [62, 61] = false := by rw [hop]; cases ol <;> rfl
    have c5 : p.isS [91] = true ∨ p.isS [40] = true ∨ p.isS [93] = true := by rw [hop, hop, hop]; cases ol <;> simp [sg]
    have c6 : (p.isS [40] || p.isS [93]) = ol := by rw [hop, hop]; cases ol <;> rfl
    unfold PS.test
    rw [c1, c2, c3, c4]
    simp only [Bool.false_eq_true, if_false]
    rw [if_pos c5, c6, l1, n1, k1, if_neg (fun h => h.2 hk)]
    have d1 : (p.adv.rank.2.adv.rank.2.isS [41] || p.adv.rank.2.adv.rank.2.isS [91]) = oh := by rw [hcl, hcl]; cases oh <;> rfl
    have d2 : p.adv.rank.2.adv.rank.2.close = p.adv.rank.2.adv.rank.2.adv := by
      unfold PS.close
      rw [if_pos]
      rw [hcl, hcl, hcl]
      cases oh <;> simp [sg]
    rw [d1, d2]
    exact ⟨rfl, k2.adv⟩
  · subst z1 z2 z3
    rcases hk with k1 | ⟨k2, hr⟩
    · subst k1
      have e2 : ttoks ⟨1, lo, zeroV, false, false⟩ = vtoks lo := by simp [ttoks]
      rw [e2] at h
      obtain ⟨t0, r0, hh, hno⟩ := vtoks_head h1
      have h' : On p (t0 :: (r0 ++ R)) := by rw [hh] at h; exact h
      have hop := h'.is_
      obtain ⟨g1, g2⟩ := lit_on h1 h
      unfold PS.test
      rw [hop, hop, hop, hop, hop, hop, hop, hno [60] (by decide) (by decide) (by decide) (by decide), hno [60, 61] (by decide) (by decide) (by decide) (by decide), hno [62] (by decide) (by decide) (by decide) (by decide), hno [62, 61] (by decide) (by decide) (by decide) (by decide), hno [91] (by decide) (by decide) (by decide) (by decide), hno [40] (by decide) (by decide) (by decide) (by decide), hno [93] (by decide) (by decide) (by decide) (by decide)]
      simp only [Bool.false_eq_true, or_self, if_false]
      rw [g1]
      exact ⟨rfl, g2⟩
    · have main : ∀ g : Bs, ttoks ⟨k, lo, zeroV, false, false⟩ = sg g :: vtoks lo → On p (sg g :: (vtoks lo ++ R)) := fun g hg => by rw [hg] at h; exact h
      rcases k2 with rfl | rfl | rfl | rfl
      · have h' := main [60] (by simp [ttoks, signT])
        obtain ⟨g1, g2⟩ := rank_on h1 hr h'.adv
        unfold PS.test
        rw [if_pos (by rw [h'.is_]; rfl), g1]
        exact ⟨rfl, g2⟩
      · have h' := main [60, 61] (by simp [ttoks, signT])
        obtain ⟨g1, g2⟩ := rank_on h1 hr h'.adv
        unfold PS.test
        rw [if_neg (by rw [h'.is_]; decide), if_pos (by rw [h'.is_]; rfl), g1]
        exact ⟨rfl, g2⟩
      · have h' := main [62] (by simp [ttoks, signT])
        obtain ⟨g1, g2⟩ := rank_on h1 hr h'.adv
        unfold PS.test
        rw [if_neg (by rw [h'.is_]; decide), if_neg (by rw [h'.is_]; decide), if_pos (by rw [h'.is_]; rfl), g1]
        exact ⟨rfl, g2⟩
      · have h' := main [62, 61] (by simp [ttoks, signT])
        obtain ⟨g1, g2⟩ := rank_on h1 hr h'.adv
        unfold PS.test
        rw [if_neg (by rw [h'.is_]; decide), if_neg (by rw [h'.is_]; decide), if_neg (by rw [h'.is_]; decide), if_pos (by rw [h'.is_]; rfl), g1]
        exact ⟨rfl, g2⟩
end Go.Proofs.YtkkeplmaphcblaaGreatDoor

namespace Go.Proofs.YtkkeplmaphcblaaGreatDoor
open Go.RowKit

theorem and_one (m : Int) : bits .and .i64 m 1 = 0 ∨ bits .and .i64 m 1 = 1 := by
  unfold bits
  simp only
  have h : (BitVec.ofInt IntKind.i64.bits m &&& BitVec.ofInt IntKind.i64.bits 1).toNat = (BitVec.ofInt IntKind.i64.bits m).toNat % 2 := by
    rw [BitVec.toNat_and, show (BitVec.ofInt IntKind.i64.bits 1).toNat = 1 by decide]
    exact Nat.and_one_is_mod _
  rw [h]
  rcases Nat.mod_two_eq_zero_or_one (BitVec.ofInt IntKind.i64.bits m).toNat with h | h <;> rw [h]
  · exact .inl (by decide)
  · exact .inr (by decide)
theorem vlq_iff {a b c : Int} {d : ByteArray} {f a' b' c' : Int} {d' : ByteArray} {f' : Int} : vlq a b c d f a' b' c' d' f' = true ↔ a = a' ∧ b = b' ∧ c = c' ∧ d.toList = d'.toList ∧ f = f' := by
  unfold vlq
  simp
theorem vs_iff (v : Vl) : vS v.k v.n v.s (bs v.t) v.m = true ↔ vSound v := by
  obtain ⟨k, n, s, t, m⟩ := v
  have ht : (bs t).toList = t := bs_toList t
  have he : (⟨#[]⟩ : ByteArray).toList = [] := bs_toList []
  unfold vS vSound
  simp only
  by_cases h0 : k = 0
  · subst h0
    rw [if_pos rfl, vlq_iff, ht, he]
    constructor
    · rintro ⟨_, h1, h2, h3, h4⟩
      exact .inl ⟨rfl, h1, h2, h3, h4⟩
    · rintro (h | h | h | h | h)
      · exact h
      all_goals exact absurd h.1 (by decide)
  · rw [if_neg h0]
    by_cases h1 : k = 1
    · subst h1
      rw [if_pos rfl, Bool.and_eq_true, vlq_iff, ht, he]
      constructor
      · rintro ⟨⟨_, _, _, h3, h4⟩, h5⟩
        exact .inr (.inl ⟨rfl, h5, h3, h4⟩)
      · rintro (h | h | h | h | h)
        · exact absurd h.1 (by decide)
        · exact ⟨⟨rfl, rfl, rfl, h.2.2.1, h.2.2.2⟩, h.2.1⟩
        all_goals exact absurd h.1 (by decide)
    · rw [if_neg h1]
      by_cases h2 : k = 2
      · subst h2
        have hsz : (((bs t).size : Int) ≤ 256) ↔ t.length ≤ 256 := by rw [bs_size]; omega
        rw [if_pos rfl, Bool.and_eq_true, Bool.and_eq_true, vlq_iff, decide_eq_true_iff, hsz]
        constructor
        · rintro ⟨⟨_, h2, h3, _, h4⟩, h5, h6⟩
          exact .inr (.inr (.inl ⟨rfl, h2, h3, h4, h5, h6⟩))
        · rintro (h | h | h | h | h)
          · exact absurd h.1 (by decide)
          · exact absurd h.1 (by decide)
          · exact ⟨⟨rfl, h.2.1, h.2.2.1, rfl, h.2.2.2.1⟩, h.2.2.2.2⟩
          all_goals exact absurd h.1 (by decide)
      · rw [if_neg h2]
        by_cases h3 : k = 3
        · subst h3
          rw [if_pos rfl, vlq_iff, ht, he]
          constructor
          · rintro ⟨_, h1, h2, h3, h4⟩
            exact .inr (.inr (.inr (.inl ⟨rfl, h1, h2, h3, by rw [h4]; exact and_one m⟩)))
          · rintro (h | h | h | h | h)
            · exact absurd h.1 (by decide)
            · exact absurd h.1 (by decide)
            · exact absurd h.1 (by decide)
            · refine ⟨rfl, h.2.1, h.2.2.1, h.2.2.2.1, ?_⟩
              rcases h.2.2.2.2 with h | h <;> rw [h] <;> decide
            · exact absurd h.1 (by decide)
        · rw [if_neg h3]
          by_cases h4 : k = 4
          · subst h4
            rw [if_pos rfl, vlq_iff, ht, he]
            constructor
            · rintro ⟨_, h1, h2, h3, h4⟩
              exact .inr (.inr (.inr (.inr ⟨rfl, h1, h2, h3, by omega, by omega⟩)))
            · rintro (h | h | h | h | h)
              · exact absurd h.1 (by decide)
              · exact absurd h.1 (by decide)
              · exact absurd h.1 (by decide)
              · exact absurd h.1 (by decide)
              · exact ⟨rfl, h.2.1, h.2.2.1, h.2.2.2.1, by have := h.2.2.2.2; omega⟩
          · rw [if_neg h4]
            constructor
            · intro h
              cases h
            · rintro (h | h | h | h | h)
              · exact absurd h.1 h0
              · exact absurd h.1 h1
              · exact absurd h.1 h2
              · exact absurd h.1 h3
              · exact absurd h.1 h4
/-- What a value's numbers keep to. -/
structure VOk (v : Vl) : Prop where
  n : I64 v.n
  s : I64 v.s
  m : I64 v.m
open Classical in
theorem vsd_any (v : Vl) (hv : VOk v) (m : Int) (w : World) (hw : OKW m w) :
    Calls Tryz.prog 48 #[.agg (cellsV v)] w fun e w' => e = .returned (.bool (decide (vSound v))) ∧ Below w.heap.size w w' := by
  have h := vs_any v.k v.n v.s (bs v.t) v.m hv.n hv.s m w hw
  have e : vS v.k v.n v.s (bs v.t) v.m = decide (vSound v) := by
    by_cases hs : vSound v
    · rw [decide_eq_true hs]
      exact (vs_iff v).2 hs
    · rw [decide_eq_false hs]
      cases hb : vS v.k v.n v.s (bs v.t) v.m with
      | false => rfl
      | true => exact absurd ((vs_iff v).1 hb) hs
  rw [e] at h
  exact h
theorem vs_ok {v : Vl} (h : vSound v) : VOk v := by
  rcases h with h | h | h | h | h
  · exact ⟨by rw [h.2.1]; exact ok0, by rw [h.2.2.1]; exact ok0, by rw [h.2.2.2.2]; exact ok0⟩
  · obtain ⟨b1, b2, b3, b4, _⟩ := sound_bd h.2.1
    exact ⟨⟨by omega, by omega⟩, ⟨by omega, by omega⟩, by rw [h.2.2.2]; exact ok0⟩
  · exact ⟨by rw [h.2.1]; exact ok0, by rw [h.2.2.1]; exact ok0, by rw [h.2.2.2.1]; exact ok0⟩
  · refine ⟨by rw [h.2.1]; exact ok0, by rw [h.2.2.1]; exact ok0, ?_⟩
    rcases h.2.2.2.2 with h | h <;> rw [h]
    · exact ok0
    · exact ⟨by decide, by decide⟩
  · exact ⟨by rw [h.2.1]; exact ok0, by rw [h.2.2.1]; exact ok0, ⟨by omega, by omega⟩⟩
end Go.Proofs.YtkkeplmaphcblaaGreatDoor

namespace Go.Proofs.YtkkeplmaphcblaaGreatDoor
open Go.RowKit

theorem PB.turnF {w0 w w' : World} {b g : Nat} {A : Option Addr} {c : Nat} {p0 p : PS} (h0 : PB w0 b A c p0) (hL : p0.L = p.L) (h : PB w b A c p) (ht : Turned w w' g) (hg : w0.heap.size ≤ g) : PB w' b A c p := by
  refine ⟨h.blk.turn ht ?_, h.tm.gr ((Gr.refl g w).turn ht) ?_, h.nb, h.le, h.big⟩
  · have := h0.blk.lt; omega
  · intro i t g' o hi hA
    obtain ⟨g2, o2, e2, hc⟩ := h0.tm i t (by rw [hL]; exact hi)
    rw [hA] at e2
    injection e2 with e2
    injection e2 with e3 e4
    have := block_lt_of_cell (hc 0 _ rfl)
    simp only at this
    omega
/-- What Value comes to. -/
def ValOut (b : Nat) (A : Option Addr) (c : Nat) (p : PS) (w : World) : Option Vl → Ending → World → Prop
  | some v, e, w' => e = .returned (.tuple #[.agg (cellsV v), .bool true]) ∧ PB w' b A c p.adv ∧ Gr b w w'
  | none, e, w' => e = .returned (.tuple #[.agg (cellsV zeroV), .bool false]) ∧ PB w' b A c p ∧ Gr b w w'
set_option maxHeartbeats 16000000 in
set_option maxRecDepth 100000 in
theorem value_tok (b : Nat) (A : Option Addr) (c : Nat) (p : PS) (w : World) (h : PB w b A c p) (he : p.e = 0) (t : Tk) (ht : p.L[p.nx]? = some t)
    (T F N : Bool) (hT : p.isS trueB = T) (hF : p.isS falseB = F) (hN : p.isS nullB = N) (O : Option Vl)
    (hO : (if t.k = 1 then some (⟨1, t.n, t.s, [], 0⟩ : Vl) else if t.k = 2 then some ⟨2, 0, 0, t.t, 0⟩ else if t.k = 3 then some ⟨4, 0, 0, [], t.m⟩ else if T = true then some ⟨3, 0, 0, [], 1⟩ else if F = true then some ⟨3, 0, 0, [], 0⟩ else if N = true then some zeroV else none) = O) :
    Calls Tryz.prog 168 #[.pointer (some ⟨b, 0, none⟩)] w fun e w' => ValOut b A c p w O e w' := by
  have hn : p.nx < p.L.length := (List.getElem?_eq_some_iff.1 ht).1
  have hni : ¬ (p.L.length : Int) ≤ (p.nx : Int) := by omega
  have hni2 : (p.nx : Int) < (p.L.length : Int) := by omega
  have hnx : IntKind.i64.wrap ((p.nx : Int) + 1) = (p.nx : Int) + 1 := IntWalk.i64_in _ (by have := h.big; omega)
  have H := Lib.hid h
  have HT := Lib.hid ht
  have HE := Lib.hid he
  have HL := Lib.hid hn
  have K1 := Lib.hid (is_any b A c p trueB)
  have K2 := Lib.hid (is_any b A c p falseB)
  have K3 := Lib.hid (is_any b A c p nullB)
  rw [hT] at K1
  rw [hF] at K2
  rw [hN] at K3
  have HO := Lib.hid hO
  obtain ⟨tk, ta, tt, tn, ts, tmm⟩ := t
  have hbp := (h).blk; have hlp := hbp.lt; have hllp := lts hlp; have qp0 := hbp.cell 0; have qp1 := hbp.cell 1; have qp2 := hbp.cell 2; have qp3 := hbp.cell 3; have qp4 := hbp.cell 4; have qp5 := hbp.cell 5; simp at qp0 qp1 qp2 qp3 qp4 qp5; have zp0 := hbp.frozen 0; have zp1 := hbp.frozen 1; have zp2 := hbp.frozen 2; have zp3 := hbp.frozen 3; have zp4 := hbp.frozen 4; have zp5 := hbp.frozen 5; have Hhbp := Lib.hid hbp; clear hbp
  rw [he] at qp4
  clear h ht he hn hT hF hN hO
  go_enter Tryz.func168, Tryz.ntmps168
  go_wp2_with fail
  go_quiet (fail)
  have k1 : Blk ((w.alloc (.cells #[.int .i64 0, .int .i64 0, .int .i64 0, .string ⟨#[]⟩, .int .i64 0] 25)).drewN nq) w.heap.size 25 #[.int .i64 0, .int .i64 0, .int .i64 0, .string ⟨#[]⟩, .int .i64 0] := (Blk.new _ _ _).drewN nq
  have hb1 : Below w.heap.size w ((w.alloc (.cells #[.int .i64 0, .int .i64 0, .int .i64 0, .string ⟨#[]⟩, .int .i64 0] 25)).drewN nq) := by (repeat' (first | (with_reducible refine bdrewN ?_ _) | (with_reducible exact Below.refl _ _) | (with_reducible assumption) | (with_reducible refine balloc ?_ _) | (with_reducible refine Below.drew ?_) | (with_reducible refine bset ?_ ?_ _) | (with_reducible refine bstep ?_ (by with_reducible assumption)) | (with_reducible refine bturn ?_ (by with_reducible assumption) ?_) | go_size))
  generalize (w.alloc (.cells #[.int .i64 0, .int .i64 0, .int .i64 0, .string ⟨#[]⟩, .int .i64 0] 25)).drewN nq = w1 at *
  clear qp0 zp0 qp1 zp1 qp2 zp2 qp3 zp3 qp4 zp4 qp5 zp5 hlp hllp Hhbp
  have h1 := H.out.step hb1
  obtain ⟨g, f, rfl, c0, c1, c2, c3, c4, c5⟩ := tm_get h1.tm HT.out
  simp only at c0 c1 c2 c3 c4 c5
  have hlg : g < w1.heap.size := block_lt_of_cell c0
  have hllg := lts hlg
  have hlb := k1.lt
  have hllb := lts hlb
  obtain ⟨q, hq⟩ : ∃ q, bs tt = q := ⟨_, rfl⟩
  rw [hq] at c2
  have hbr := (h1).blk; have hlr := hbr.lt; have hllr := lts hlr; have qr0 := hbr.cell 0; have qr1 := hbr.cell 1; have qr2 := hbr.cell 2; have qr3 := hbr.cell 3; have qr4 := hbr.cell 4; have qr5 := hbr.cell 5; simp at qr0 qr1 qr2 qr3 qr4 qr5; have zr0 := hbr.frozen 0; have zr1 := hbr.frozen 1; have zr2 := hbr.frozen 2; have zr3 := hbr.frozen 3; have zr4 := hbr.frozen 4; have zr5 := hbr.frozen 5; have Hhbr := Lib.hid hbr; clear hbr
  rw [HE.out] at qr4
  have H1 := Lib.hid h1
  clear h1
  go_wp2_with fail
  go_region
  all_goals
    have k2 : Blk ((w1.alloc (.cells #[.int .i64 tk, .int .i64 (ta : Int), .string q, .int .i64 tn, .int .i64 ts, .int .i64 tmm] 149)).drew) w1.heap.size 149 #[.int .i64 tk, .int .i64 (ta : Int), .string q, .int .i64 tn, .int .i64 ts, .int .i64 tmm] := (Blk.new _ _ _).drew
    have k1' : Blk ((w1.alloc (.cells #[.int .i64 tk, .int .i64 (ta : Int), .string q, .int .i64 tn, .int .i64 ts, .int .i64 tmm] 149)).drew) w.heap.size 25 #[.int .i64 0, .int .i64 0, .int .i64 0, .string ⟨#[]⟩, .int .i64 0] := (k1.alloc _).drew
    have hb2 : Below w1.heap.size w1 ((w1.alloc (.cells #[.int .i64 tk, .int .i64 (ta : Int), .string q, .int .i64 tn, .int .i64 ts, .int .i64 tmm] 149)).drew) := by (repeat' (first | (with_reducible exact Below.refl _ _) | (with_reducible assumption) | (with_reducible refine balloc ?_ _) | (with_reducible refine Below.drew ?_) | (with_reducible refine bset ?_ ?_ _) | (with_reducible refine bstep ?_ (by with_reducible assumption)) | (with_reducible refine bturn ?_ (by with_reducible assumption) ?_) | go_size))
    generalize (w1.alloc (.cells #[.int .i64 tk, .int .i64 (ta : Int), .string q, .int .i64 tn, .int .i64 ts, .int .i64 tmm] 149)).drew = w2 at *
    clear c0 c1 c2 c3 c4 c5 hllg hlg hlb hllb
    clear qr0 zr0 qr1 zr1 qr2 zr2 qr3 zr3 qr4 zr4 qr5 zr5 hlr hllr Hhbr
    have h2 := H1.out.step hb2
    have hb3 : Below w.heap.size w w2 := bstep hb1 hb2
    have hz1 := hb1.size
    have hz2 := hb2.size
    have hlk := k2.lt
    have hlj := k1'.lt
    have H2 := Lib.hid h2
    have hlb := h2.blk.lt
    have hlw := H.out.blk.lt
    have HQ := Lib.hid hq
    have k3 : Blk (w2.alloc (.cells #[.int .i64 0, .int .i64 0, .int .i64 0, .string ⟨#[]⟩, .int .i64 0] 25)) w2.heap.size 25 #[.int .i64 0, .int .i64 0, .int .i64 0, .string ⟨#[]⟩, .int .i64 0] := Blk.new _ _ _
    have HK1 := Lib.hid k1'
    go_upto_region 5 with (refine wpList_store_blk k3 rfl _ _ _ (by rfl) _ (by rfl) (by rfl) (by (repeat (first | (with_reducible exact k3) | (with_reducible refine Blk.alloc ?_ _) | (with_reducible refine Blk.drew ?_) | (with_reducible refine Blk.far ?_ (by first | (simp; done) | (simp; omega)) _) | (with_reducible refine Blk.turn ?_ (by with_reducible assumption) (by omega))))) (by rfl) (by kernel_rfl) (by simp [Value.oneCell']) ?_; intro wt k3n ht)
    have hb4 : Below w2.heap.size w2 wt := bturn (balloc (Below.refl _ _) _) ht (Nat.le_refl _)
    have k2t := k2.step hb4
    have h4 := h2.step hb4
    have G0 := Lib.hid h4
    have hs4 : w2.heap.size < wt.heap.size := k3n.lt
    clear k2 k1' h2 k3 hlk hlj
    by_cases e1 : tk = 1
    · subst e1
      have hlt := k2t.lt; have hllt := lts hlt; have qt0 := k2t.cell 0; have qt1 := k2t.cell 1; have qt2 := k2t.cell 2; have qt3 := k2t.cell 3; have qt4 := k2t.cell 4; have qt5 := k2t.cell 5; simp at qt0 qt1 qt2 qt3 qt4 qt5; have zt0 := k2t.frozen 0; have zt1 := k2t.frozen 1; have zt2 := k2t.frozen 2; have zt3 := k2t.frozen 3; have zt4 := k2t.frozen 4; have zt5 := k2t.frozen 5; have Hk2t := Lib.hid k2t; clear k2t
      clear h4
      go_upto_region 17 with (refine wpList_store_blk k3n rfl _ _ _ (by rfl) _ (by rfl) (by rfl) (by (repeat (first | (with_reducible exact k3n) | (with_reducible refine Blk.alloc ?_ _) | (with_reducible refine Blk.drew ?_) | (with_reducible refine Blk.far ?_ (by first | (simp; done) | (simp; omega)) _) | (with_reducible refine Blk.turn ?_ (by with_reducible assumption) (by omega))))) (by rfl) (by kernel_rfl) (by simp [Value.oneCell']) ?_; intro wt k3nn ht)
      have hbv : Below w2.heap.size w2 wt := bturn hb4 ht (Nat.le_refl _)
      have h5 := H2.out.step hbv
      have H5 := Lib.hid h5
      have k1v := HK1.out.step hbv
      have hsv : w2.heap.size < wt.heap.size := (k3nn).lt
      have hbs := (h5).blk; have hls := hbs.lt; have hlls := lts hls; have qs0 := hbs.cell 0; have qs1 := hbs.cell 1; have qs2 := hbs.cell 2; have qs3 := hbs.cell 3; have qs4 := hbs.cell 4; have qs5 := hbs.cell 5; simp at qs0 qs1 qs2 qs3 qs4 qs5; have zs0 := hbs.frozen 0; have zs1 := hbs.frozen 1; have zs2 := hbs.frozen 2; have zs3 := hbs.frozen 3; have zs4 := hbs.frozen 4; have zs5 := hbs.frozen 5; have Hhbs := Lib.hid hbs; clear hbs
      clear h5
      go_wp2_with (first | (refine wpList_load_blk k3nn rfl _ _ (by rfl) (by rfl) (by (repeat (first | (with_reducible exact k3nn) | (with_reducible refine Blk.alloc ?_ _) | (with_reducible refine Blk.drew ?_) | (with_reducible refine Blk.far ?_ (by first | (simp; done) | (simp; omega)) _) | (with_reducible refine Blk.turn ?_ (by with_reducible assumption) (by omega))))) _ Tryz.underlying25 rfl (by kernel_rfl) ?_) | (refine wpList_store_blk k1v rfl _ _ _ (by rfl) _ (by rfl) (by rfl) (by (repeat (first | (with_reducible exact k1v) | (with_reducible refine Blk.alloc ?_ _) | (with_reducible refine Blk.drew ?_) | (with_reducible refine Blk.far ?_ (by first | (simp; done) | (simp; omega)) _) | (with_reducible refine Blk.turn ?_ (by with_reducible assumption) (by omega))))) (by rfl) (by kernel_rfl) (by simp [Value.oneCell']) ?_; intro wt k1vn ht))
      refine ret_blk2 rfl k1vn rfl Tryz.underlying25 rfl (by kernel_rfl) rfl ?_
      obtain rfl : (some ⟨1, tn, ts, [], 0⟩ : Option Vl) = O := HO.out
      exact ⟨by rfl, H.out.turnF rfl (H5.out.adv HL.out) ht (Nat.le_refl _), Gr.turnFar ((Gr.of (bstep hb3 hbv)).set 1 _) ht (Nat.le_refl _)⟩
    · by_cases e2 : tk = 2
      · subst e2
        have hlt := k2t.lt; have hllt := lts hlt; have qt0 := k2t.cell 0; have qt1 := k2t.cell 1; have qt2 := k2t.cell 2; have qt3 := k2t.cell 3; have qt4 := k2t.cell 4; have qt5 := k2t.cell 5; simp at qt0 qt1 qt2 qt3 qt4 qt5; have zt0 := k2t.frozen 0; have zt1 := k2t.frozen 1; have zt2 := k2t.frozen 2; have zt3 := k2t.frozen 3; have zt4 := k2t.frozen 4; have zt5 := k2t.frozen 5; have Hk2t := Lib.hid k2t; clear k2t
        clear h4
        go_upto_region 17 with (refine wpList_store_blk k3n rfl _ _ _ (by rfl) _ (by rfl) (by rfl) (by (repeat (first | (with_reducible exact k3n) | (with_reducible refine Blk.alloc ?_ _) | (with_reducible refine Blk.drew ?_) | (with_reducible refine Blk.far ?_ (by first | (simp; done) | (simp; omega)) _) | (with_reducible refine Blk.turn ?_ (by with_reducible assumption) (by omega))))) (by rfl) (by kernel_rfl) (by simp [Value.oneCell']) ?_; intro wt k3nn ht)
        have hbv : Below w2.heap.size w2 wt := bturn hb4 ht (Nat.le_refl _)
        have h5 := H2.out.step hbv
        have H5 := Lib.hid h5
        have k1v := HK1.out.step hbv
        have hsv : w2.heap.size < wt.heap.size := (k3nn).lt
        have hbs := (h5).blk; have hls := hbs.lt; have hlls := lts hls; have qs0 := hbs.cell 0; have qs1 := hbs.cell 1; have qs2 := hbs.cell 2; have qs3 := hbs.cell 3; have qs4 := hbs.cell 4; have qs5 := hbs.cell 5; simp at qs0 qs1 qs2 qs3 qs4 qs5; have zs0 := hbs.frozen 0; have zs1 := hbs.frozen 1; have zs2 := hbs.frozen 2; have zs3 := hbs.frozen 3; have zs4 := hbs.frozen 4; have zs5 := hbs.frozen 5; have Hhbs := Lib.hid hbs; clear hbs
        clear h5
        go_wp2_with (first | (refine wpList_load_blk k3nn rfl _ _ (by rfl) (by rfl) (by (repeat (first | (with_reducible exact k3nn) | (with_reducible refine Blk.alloc ?_ _) | (with_reducible refine Blk.drew ?_) | (with_reducible refine Blk.far ?_ (by first | (simp; done) | (simp; omega)) _) | (with_reducible refine Blk.turn ?_ (by with_reducible assumption) (by omega))))) _ Tryz.underlying25 rfl (by kernel_rfl) ?_) | (refine wpList_store_blk k1v rfl _ _ _ (by rfl) _ (by rfl) (by rfl) (by (repeat (first | (with_reducible exact k1v) | (with_reducible refine Blk.alloc ?_ _) | (with_reducible refine Blk.drew ?_) | (with_reducible refine Blk.far ?_ (by first | (simp; done) | (simp; omega)) _) | (with_reducible refine Blk.turn ?_ (by with_reducible assumption) (by omega))))) (by rfl) (by kernel_rfl) (by simp [Value.oneCell']) ?_; intro wt k1vn ht))
        refine ret_blk2 rfl k1vn rfl Tryz.underlying25 rfl (by kernel_rfl) rfl ?_
        obtain rfl : (some ⟨2, 0, 0, tt, 0⟩ : Option Vl) = O := by have h := HO.out; rw [if_neg e1] at h; exact h
        exact ⟨by subst hq; rfl, H.out.turnF rfl (H5.out.adv HL.out) ht (Nat.le_refl _), Gr.turnFar ((Gr.of (bstep hb3 hbv)).set 1 _) ht (Nat.le_refl _)⟩
      · by_cases e3 : tk = 3
        · subst e3
          have hlt := k2t.lt; have hllt := lts hlt; have qt0 := k2t.cell 0; have qt1 := k2t.cell 1; have qt2 := k2t.cell 2; have qt3 := k2t.cell 3; have qt4 := k2t.cell 4; have qt5 := k2t.cell 5; simp at qt0 qt1 qt2 qt3 qt4 qt5; have zt0 := k2t.frozen 0; have zt1 := k2t.frozen 1; have zt2 := k2t.frozen 2; have zt3 := k2t.frozen 3; have zt4 := k2t.frozen 4; have zt5 := k2t.frozen 5; have Hk2t := Lib.hid k2t; clear k2t
          clear h4
          go_upto_region 17 with (refine wpList_store_blk k3n rfl _ _ _ (by rfl) _ (by rfl) (by rfl) (by (repeat (first | (with_reducible exact k3n) | (with_reducible refine Blk.alloc ?_ _) | (with_reducible refine Blk.drew ?_) | (with_reducible refine Blk.far ?_ (by first | (simp; done) | (simp; omega)) _) | (with_reducible refine Blk.turn ?_ (by with_reducible assumption) (by omega))))) (by rfl) (by kernel_rfl) (by simp [Value.oneCell']) ?_; intro wt k3nn ht)
          have hbv : Below w2.heap.size w2 wt := bturn hb4 ht (Nat.le_refl _)
          have h5 := H2.out.step hbv
          have H5 := Lib.hid h5
          have k1v := HK1.out.step hbv
          have hsv : w2.heap.size < wt.heap.size := (k3nn).lt
          have hbs := (h5).blk; have hls := hbs.lt; have hlls := lts hls; have qs0 := hbs.cell 0; have qs1 := hbs.cell 1; have qs2 := hbs.cell 2; have qs3 := hbs.cell 3; have qs4 := hbs.cell 4; have qs5 := hbs.cell 5; simp at qs0 qs1 qs2 qs3 qs4 qs5; have zs0 := hbs.frozen 0; have zs1 := hbs.frozen 1; have zs2 := hbs.frozen 2; have zs3 := hbs.frozen 3; have zs4 := hbs.frozen 4; have zs5 := hbs.frozen 5; have Hhbs := Lib.hid hbs; clear hbs
          clear h5
          go_wp2_with (first | (refine wpList_load_blk k3nn rfl _ _ (by rfl) (by rfl) (by (repeat (first | (with_reducible exact k3nn) | (with_reducible refine Blk.alloc ?_ _) | (with_reducible refine Blk.drew ?_) | (with_reducible refine Blk.far ?_ (by first | (simp; done) | (simp; omega)) _) | (with_reducible refine Blk.turn ?_ (by with_reducible assumption) (by omega))))) _ Tryz.underlying25 rfl (by kernel_rfl) ?_) | (refine wpList_store_blk k1v rfl _ _ _ (by rfl) _ (by rfl) (by rfl) (by (repeat (first | (with_reducible exact k1v) | (with_reducible refine Blk.alloc ?_ _) | (with_reducible refine Blk.drew ?_) | (with_reducible refine Blk.far ?_ (by first | (simp; done) | (simp; omega)) _) | (with_reducible refine Blk.turn ?_ (by with_reducible assumption) (by omega))))) (by rfl) (by kernel_rfl) (by simp [Value.oneCell']) ?_; intro wt k1vn ht))
          refine ret_blk2 rfl k1vn rfl Tryz.underlying25 rfl (by kernel_rfl) rfl ?_
          obtain rfl : (some ⟨4, 0, 0, [], tmm⟩ : Option Vl) = O := by have h := HO.out; rw [if_neg e1, if_neg e2] at h; exact h
          exact ⟨by rfl, H.out.turnF rfl (H5.out.adv HL.out) ht (Nat.le_refl _), Gr.turnFar ((Gr.of (bstep hb3 hbv)).set 1 _) ht (Nat.le_refl _)⟩
        · have HO : Hid ((if T = true then some (⟨3, 0, 0, [], 1⟩ : Vl) else if F = true then some ⟨3, 0, 0, [], 0⟩ else if N = true then some zeroV else none) = O) := Lib.hid (by have h := HO.out; rw [if_neg e1, if_neg e2, if_neg e3] at h; exact h)
          have hlt := k2t.lt; have hllt := lts hlt; have qt0 := k2t.cell 0; have qt1 := k2t.cell 1; have qt2 := k2t.cell 2; have qt3 := k2t.cell 3; have qt4 := k2t.cell 4; have qt5 := k2t.cell 5; simp at qt0 qt1 qt2 qt3 qt4 qt5; have zt0 := k2t.frozen 0; have zt1 := k2t.frozen 1; have zt2 := k2t.frozen 2; have zt3 := k2t.frozen 3; have zt4 := k2t.frozen 4; have zt5 := k2t.frozen 5; have Hk2t := Lib.hid k2t; clear k2t
          clear h4
          go_upto_region 11 with fail
          go_wp2_with fail
          refine (K1.out _ G0.out).mono ?_
          rintro e v0 ⟨rfl, hc0⟩
          have d0 : Below w2.heap.size w2 v0 := bstep hb4 hc0
          have k3v0 := k3n.step hc0
          have hsv0 : w2.heap.size < v0.heap.size := k3v0.lt
          have G1 := Lib.hid (G0.out.step hc0)
          cases T with
          | true =>
            go_upto_region 17 with (refine wpList_store_blk k3v0 rfl _ _ _ (by rfl) _ (by rfl) (by rfl) (by (repeat (first | (with_reducible exact k3v0) | (with_reducible refine Blk.alloc ?_ _) | (with_reducible refine Blk.drew ?_) | (with_reducible refine Blk.far ?_ (by first | (simp; done) | (simp; omega)) _) | (with_reducible refine Blk.turn ?_ (by with_reducible assumption) (by omega))))) (by rfl) (by kernel_rfl) (by simp [Value.oneCell']) ?_; intro wt k3v0n ht)
            have hbv : Below w2.heap.size w2 wt := bturn d0 ht (Nat.le_refl _)
            have h5 := H2.out.step hbv
            have H5 := Lib.hid h5
            have k1v := HK1.out.step hbv
            have hsv : w2.heap.size < wt.heap.size := (k3v0n).lt
            have hbs := (h5).blk; have hls := hbs.lt; have hlls := lts hls; have qs0 := hbs.cell 0; have qs1 := hbs.cell 1; have qs2 := hbs.cell 2; have qs3 := hbs.cell 3; have qs4 := hbs.cell 4; have qs5 := hbs.cell 5; simp at qs0 qs1 qs2 qs3 qs4 qs5; have zs0 := hbs.frozen 0; have zs1 := hbs.frozen 1; have zs2 := hbs.frozen 2; have zs3 := hbs.frozen 3; have zs4 := hbs.frozen 4; have zs5 := hbs.frozen 5; have Hhbs := Lib.hid hbs; clear hbs
            clear h5
            go_wp2_with (first | (refine wpList_load_blk k3v0n rfl _ _ (by rfl) (by rfl) (by (repeat (first | (with_reducible exact k3v0n) | (with_reducible refine Blk.alloc ?_ _) | (with_reducible refine Blk.drew ?_) | (with_reducible refine Blk.far ?_ (by first | (simp; done) | (simp; omega)) _) | (with_reducible refine Blk.turn ?_ (by with_reducible assumption) (by omega))))) _ Tryz.underlying25 rfl (by kernel_rfl) ?_) | (refine wpList_store_blk k1v rfl _ _ _ (by rfl) _ (by rfl) (by rfl) (by (repeat (first | (with_reducible exact k1v) | (with_reducible refine Blk.alloc ?_ _) | (with_reducible refine Blk.drew ?_) | (with_reducible refine Blk.far ?_ (by first | (simp; done) | (simp; omega)) _) | (with_reducible refine Blk.turn ?_ (by with_reducible assumption) (by omega))))) (by rfl) (by kernel_rfl) (by simp [Value.oneCell']) ?_; intro wt k1vn ht))
            refine ret_blk2 rfl k1vn rfl Tryz.underlying25 rfl (by kernel_rfl) rfl ?_
            obtain rfl : (some ⟨3, 0, 0, [], 1⟩ : Option Vl) = O := HO.out
            exact ⟨by rfl, H.out.turnF rfl (H5.out.adv HL.out) ht (Nat.le_refl _), Gr.turnFar ((Gr.of (bstep hb3 hbv)).set 1 _) ht (Nat.le_refl _)⟩
          | false =>
            go_wp2_with fail
            refine (K2.out _ G1.out).mono ?_
            rintro e v1 ⟨rfl, hc1⟩
            have d1 : Below w2.heap.size w2 v1 := bstep d0 hc1
            have k3v1 := k3v0.step hc1
            have hsv1 : w2.heap.size < v1.heap.size := k3v1.lt
            have G2 := Lib.hid (G1.out.step hc1)
            cases F with
            | true =>
              go_upto_region 17 with (refine wpList_store_blk k3v1 rfl _ _ _ (by rfl) _ (by rfl) (by rfl) (by (repeat (first | (with_reducible exact k3v1) | (with_reducible refine Blk.alloc ?_ _) | (with_reducible refine Blk.drew ?_) | (with_reducible refine Blk.far ?_ (by first | (simp; done) | (simp; omega)) _) | (with_reducible refine Blk.turn ?_ (by with_reducible assumption) (by omega))))) (by rfl) (by kernel_rfl) (by simp [Value.oneCell']) ?_; intro wt k3v1n ht)
              have hbv : Below w2.heap.size w2 wt := bturn d1 ht (Nat.le_refl _)
              have h5 := H2.out.step hbv
              have H5 := Lib.hid h5
              have k1v := HK1.out.step hbv
              have hsv : w2.heap.size < wt.heap.size := (k3v1n).lt
              have hbs := (h5).blk; have hls := hbs.lt; have hlls := lts hls; have qs0 := hbs.cell 0; have qs1 := hbs.cell 1; have qs2 := hbs.cell 2; have qs3 := hbs.cell 3; have qs4 := hbs.cell 4; have qs5 := hbs.cell 5; simp at qs0 qs1 qs2 qs3 qs4 qs5; have zs0 := hbs.frozen 0; have zs1 := hbs.frozen 1; have zs2 := hbs.frozen 2; have zs3 := hbs.frozen 3; have zs4 := hbs.frozen 4; have zs5 := hbs.frozen 5; have Hhbs := Lib.hid hbs; clear hbs
              clear h5
              go_wp2_with (first | (refine wpList_load_blk k3v1n rfl _ _ (by rfl) (by rfl) (by (repeat (first | (with_reducible exact k3v1n) | (with_reducible refine Blk.alloc ?_ _) | (with_reducible refine Blk.drew ?_) | (with_reducible refine Blk.far ?_ (by first | (simp; done) | (simp; omega)) _) | (with_reducible refine Blk.turn ?_ (by with_reducible assumption) (by omega))))) _ Tryz.underlying25 rfl (by kernel_rfl) ?_) | (refine wpList_store_blk k1v rfl _ _ _ (by rfl) _ (by rfl) (by rfl) (by (repeat (first | (with_reducible exact k1v) | (with_reducible refine Blk.alloc ?_ _) | (with_reducible refine Blk.drew ?_) | (with_reducible refine Blk.far ?_ (by first | (simp; done) | (simp; omega)) _) | (with_reducible refine Blk.turn ?_ (by with_reducible assumption) (by omega))))) (by rfl) (by kernel_rfl) (by simp [Value.oneCell']) ?_; intro wt k1vn ht))
              refine ret_blk2 rfl k1vn rfl Tryz.underlying25 rfl (by kernel_rfl) rfl ?_
              obtain rfl : (some ⟨3, 0, 0, [], 0⟩ : Option Vl) = O := HO.out
              exact ⟨by rfl, H.out.turnF rfl (H5.out.adv HL.out) ht (Nat.le_refl _), Gr.turnFar ((Gr.of (bstep hb3 hbv)).set 1 _) ht (Nat.le_refl _)⟩
            | false =>
              go_wp2_with fail
              refine (K3.out _ G2.out).mono ?_
              rintro e v2 ⟨rfl, hc2⟩
              have d2 : Below w2.heap.size w2 v2 := bstep d1 hc2
              have k3v2 := k3v1.step hc2
              have hsv2 : w2.heap.size < v2.heap.size := k3v2.lt
              have G3 := Lib.hid (G2.out.step hc2)
              cases N with
              | true =>
                go_upto_region 17 with fail
                have h5 := G3.out
                have k1v := HK1.out.step d2
                have hbs := (h5).blk; have hls := hbs.lt; have hlls := lts hls; have qs0 := hbs.cell 0; have qs1 := hbs.cell 1; have qs2 := hbs.cell 2; have qs3 := hbs.cell 3; have qs4 := hbs.cell 4; have qs5 := hbs.cell 5; simp at qs0 qs1 qs2 qs3 qs4 qs5; have zs0 := hbs.frozen 0; have zs1 := hbs.frozen 1; have zs2 := hbs.frozen 2; have zs3 := hbs.frozen 3; have zs4 := hbs.frozen 4; have zs5 := hbs.frozen 5; have Hhbs := Lib.hid hbs; clear hbs
                clear h5
                go_wp2_with (first | (refine wpList_load_blk k3v2 rfl _ _ (by rfl) (by rfl) (by (repeat (first | (with_reducible exact k3v2) | (with_reducible refine Blk.alloc ?_ _) | (with_reducible refine Blk.drew ?_) | (with_reducible refine Blk.far ?_ (by first | (simp; done) | (simp; omega)) _) | (with_reducible refine Blk.turn ?_ (by with_reducible assumption) (by omega))))) _ Tryz.underlying25 rfl (by kernel_rfl) ?_) | (refine wpList_store_blk k1v rfl _ _ _ (by rfl) _ (by rfl) (by rfl) (by (repeat (first | (with_reducible exact k1v) | (with_reducible refine Blk.alloc ?_ _) | (with_reducible refine Blk.drew ?_) | (with_reducible refine Blk.far ?_ (by first | (simp; done) | (simp; omega)) _) | (with_reducible refine Blk.turn ?_ (by with_reducible assumption) (by omega))))) (by rfl) (by kernel_rfl) (by simp [Value.oneCell']) ?_; intro wt k1vn ht))
                refine ret_blk2 rfl k1vn rfl Tryz.underlying25 rfl (by kernel_rfl) rfl ?_
                obtain rfl : (some zeroV : Option Vl) = O := HO.out
                exact ⟨rfl, H.out.turnF rfl (G3.out.adv HL.out) ht (Nat.le_refl _), Gr.turnFar ((Gr.of (bstep hb3 d2)).set 1 _) ht (Nat.le_refl _)⟩
              | false =>
                have k1v := HK1.out.step d2
                go_wp2_with (first | (refine wpList_load_blk k3v2 rfl _ _ (by rfl) (by rfl) (by (repeat (first | (with_reducible exact k3v2) | (with_reducible refine Blk.alloc ?_ _) | (with_reducible refine Blk.drew ?_) | (with_reducible refine Blk.far ?_ (by first | (simp; done) | (simp; omega)) _) | (with_reducible refine Blk.turn ?_ (by with_reducible assumption) (by omega))))) _ Tryz.underlying25 rfl (by kernel_rfl) ?_) | (refine wpList_store_blk k1v rfl _ _ _ (by rfl) _ (by rfl) (by rfl) (by (repeat (first | (with_reducible exact k1v) | (with_reducible refine Blk.alloc ?_ _) | (with_reducible refine Blk.drew ?_) | (with_reducible refine Blk.far ?_ (by first | (simp; done) | (simp; omega)) _) | (with_reducible refine Blk.turn ?_ (by with_reducible assumption) (by omega))))) (by rfl) (by kernel_rfl) (by simp [Value.oneCell']) ?_; intro wt k1vn ht))
                refine ret_blk2 rfl k1vn rfl Tryz.underlying25 rfl (by kernel_rfl) rfl ?_
                obtain rfl : (none : Option Vl) = O := HO.out
                exact ⟨rfl, H.out.turnF rfl G3.out ht (Nat.le_refl _), Gr.turnFar (Gr.of (bstep hb3 d2)) ht (Nat.le_refl _)⟩
end Go.Proofs.YtkkeplmaphcblaaGreatDoor

namespace Go.Proofs.YtkkeplmaphcblaaGreatDoor
open Go.RowKit

theorem isS_iff {p : PS} {t : Tk} (he : p.e = 0) (ht : p.L[p.nx]? = some t) (s : Bs) : p.isS s = true ↔ (t.k = 4 ∨ t.k = 5) ∧ t.t = s := by
  rw [isS_some he ht]
  simp
theorem value_any (b : Nat) (A : Option Addr) (c : Nat) (p : PS) (w : World) (h : PB w b A c p) :
    Calls Tryz.prog 168 #[.pointer (some ⟨b, 0, none⟩)] w fun e w' => ValOut b A c p w p.val e w' := by
  by_cases he : p.e = 0
  · cases ht : p.L[p.nx]? with
    | none =>
      have hv : p.val = none := by unfold PS.val; rw [if_pos he, ht]
      rw [hv]
      refine (value_none b A c p w h (.inr (List.getElem?_eq_none_iff.1 ht))).mono ?_
      rintro e w' ⟨rfl, hb⟩
      exact ⟨rfl, h.step hb, .of hb⟩
    | some t =>
      have hv : p.val = valT t := by unfold PS.val; rw [if_pos he, ht]
      rw [hv]
      refine value_tok b A c p w h he t ht _ _ _ rfl rfl rfl _ ?_
      unfold valT
      simp only [isS_iff he ht]
  · have hv : p.val = none := by unfold PS.val; rw [if_neg he]
    rw [hv]
    refine (value_none b A c p w h (.inl he)).mono ?_
    rintro e w' ⟨rfl, hb⟩
    exact ⟨rfl, h.step hb, .of hb⟩
theorem take_L (p : PS) (s : Bs) : (p.take s).L = p.L := by unfold PS.take; split <;> rfl
theorem fail_L (p : PS) (k : Int) : (p.fail k).L = p.L := by unfold PS.fail; split <;> rfl
theorem need_L (p : PS) (s : Bs) : (p.need s).L = p.L := by unfold PS.need; split <;> first | rfl | exact fail_L _ _
theorem take_no {p : PS} {s : Bs} (h : p.isS s = false) : p.take s = p := by unfold PS.take; rw [h]; rfl
theorem take_yes {p : PS} {s : Bs} (h : p.isS s = true) : p.take s = p.adv := by unfold PS.take; rw [h]; rfl
end Go.Proofs.YtkkeplmaphcblaaGreatDoor

namespace Go.Proofs.YtkkeplmaphcblaaGreatDoor
open Go.RowKit

theorem lit_L (p : PS) : p.lit.2.L = p.L := by
  unfold PS.lit
  split
  · exact (fail_L _ _).trans (take_L _ _)
  · split
    · split
      · exact take_L _ _
      · exact (fail_L _ _).trans (take_L _ _)
    · exact take_L _ _
theorem rank_L (p : PS) : p.rank.2.L = p.L := by
  unfold PS.rank
  split
  · exact fail_L _ _
  · exact lit_L _
/-- A value that a token is. -/
theorem valT_sound {t : Tk} {v : Vl} (ht : tkOK t) (h : valT t = some v) : v.k = 1 → 0 ≤ v.n ∧ soundS v.n v.s = true := by
  unfold valT at h
  split at h
  · rename_i h1
    injection h with h
    subst h
    exact fun _ => ht.1 h1
  · (repeat' split at h) <;> first | (injection h with h; subst h; intro hk; simp [zeroV] at hk) | cases h
theorem val_sound {p : PS} {v : Vl} (hok : ∀ t ∈ p.L, tkOK t) (h : p.val = some v) : v.k = 1 → 0 ≤ v.n ∧ soundS v.n v.s = true := by
  unfold PS.val at h
  split at h
  · split at h
    · cases h
    · rename_i t ht
      exact valT_sound (hok t (List.mem_of_getElem? ht)) h
  · cases h

def litO (M : Bool) (P : PS) : Option Vl → Vl × PS
  | none => (zeroV, P.fail 5)
  | some v => if M = true then if v.k = 1 then ({ v with n := -v.n }, P.adv) else (v, P.fail 5) else (v, P.adv)
theorem lit_eq (p : PS) : p.lit = litO (p.isS [45]) (p.take [45]) (p.take [45]).val := by
  unfold PS.lit litO
  cases (p.take [45]).val <;> rfl
set_option maxHeartbeats 8000000 in
set_option maxRecDepth 100000 in
theorem lit_any (b : Nat) (A : Option Addr) (c : Nat) (p : PS) (w : World) (h : PB w b A c p) (hok : ∀ t ∈ p.L, tkOK t) :
    Calls Tryz.prog 150 #[.agg #[.pointer (some ⟨b, 0, none⟩)]] w fun e w' => e = .returned (.agg (cellsV p.lit.1)) ∧ PB w' b A c p.lit.2 ∧ Gr b w w' := by
  have H := Lib.hid h
  have hlw := h.blk.lt
  have K1 := Lib.hid (take_any b A c p [45])
  obtain ⟨M, hM⟩ : ∃ M, p.isS [45] = M := ⟨_, rfl⟩
  obtain ⟨P, hP⟩ : ∃ P, p.take [45] = P := ⟨_, rfl⟩
  have hokP : ∀ t ∈ P.L, tkOK t := by rw [← hP, take_L]; exact hok
  rw [hM, hP] at K1
  obtain ⟨O, hO⟩ : ∃ O, P.val = O := ⟨_, rfl⟩
  have K2 := Lib.hid (value_any b A c P)
  rw [hO] at K2
  have KF := Lib.hid (fail_any b A c P 5)
  have HV := Lib.hid (fun (v : Vl) (hv : O = some v) => val_sound hokP (hO.trans hv))
  obtain ⟨V, hV⟩ : ∃ V, p.lit.1 = V := ⟨_, rfl⟩
  obtain ⟨Q, hQ⟩ : ∃ Q, p.lit.2 = Q := ⟨_, rfl⟩
  have HS : Hid (litO M P O = (V, Q)) := Lib.hid (by
    rw [← hV, ← hQ, ← hO, ← hM, ← hP, ← lit_eq])
  rw [hV, hQ]
  have HL : Hid (p.L = P.L) := Lib.hid (by rw [← hP, take_L])
  clear h hok hokP hM hP hO hV hQ
  go_enter Tryz.func150, Tryz.ntmps150
  go_wp2_with fail
  have hb0 : Below w.heap.size w ((w.alloc (.cells #[.pointer (some ⟨b, 0, none⟩)] 87)).alloc (.cells #[.int .i64 0, .int .i64 0, .int .i64 0, .string ⟨#[]⟩, .int .i64 0] 25)) := by (repeat' (first | (with_reducible exact Below.refl _ _) | (with_reducible assumption) | (with_reducible refine balloc ?_ _) | (with_reducible refine Below.drew ?_) | (with_reducible refine bset ?_ ?_ _) | (with_reducible refine bstep ?_ (by with_reducible assumption)) | (with_reducible refine bturn ?_ (by with_reducible assumption) ?_) | go_size))
  have kb0 : Blk ((w.alloc (.cells #[.pointer (some ⟨b, 0, none⟩)] 87)).alloc (.cells #[.int .i64 0, .int .i64 0, .int .i64 0, .string ⟨#[]⟩, .int .i64 0] 25)) w.heap.size 87 #[.pointer (some ⟨b, 0, none⟩)] := (Blk.new _ _ _).alloc _
  have kr0 : Blk ((w.alloc (.cells #[.pointer (some ⟨b, 0, none⟩)] 87)).alloc (.cells #[.int .i64 0, .int .i64 0, .int .i64 0, .string ⟨#[]⟩, .int .i64 0] 25)) (w.heap.size + 1) 25 #[.int .i64 0, .int .i64 0, .int .i64 0, .string ⟨#[]⟩, .int .i64 0] := Blk.new' _ _ _ (by simp)
  refine (K1.out _ (H.out.step hb0)).mono ?_
  rintro e w1 ⟨rfl, h1, g1⟩
  have g0 : Gr b w w1 := (Gr.of hb0).trans g1
  have kb1 := kb0.gr g1 (by omega)
  have kr1 := kr0.gr g1 (by omega)
  have HB1 := Lib.hid kb1
  have HP1 := Lib.hid h1
  clear kb0 kr0 hb0 g1
  have hlu := kb1.lt; have hllu := lts hlu; have qu0 := kb1.cell 0; simp at qu0; have zu0 := kb1.frozen 0; have Hkb1 := Lib.hid kb1; clear kb1
  have hp1 := h1.blk
  have hz1 := g0.size
  have hlp1 := hp1.lt
  clear h1
  have k4 : Blk (w1.alloc (.cells #[.slice none 0 0, .int .i64 0, .int .i64 0, .int .i64 0, .int .i64 0, .int .i64 0] 69)) w1.heap.size 69 #[.slice none 0 0, .int .i64 0, .int .i64 0, .int .i64 0, .int .i64 0, .int .i64 0] := Blk.new _ _ _
  go_upto_region 3 with (first | (refine wpList_load_blk hp1 rfl _ _ (by rfl) (by rfl) (by (repeat (first | (with_reducible exact hp1) | (with_reducible refine Blk.alloc ?_ _) | (with_reducible refine Blk.drew ?_) | (with_reducible refine Blk.far ?_ (by first | (simp; done) | (simp; omega)) _) | (with_reducible refine Blk.turn ?_ (by with_reducible assumption) (by omega))))) _ Tryz.underlying69 rfl (by kernel_rfl) ?_) | (refine wpList_store_blk k4 rfl _ _ _ (by rfl) _ (by rfl) (by rfl) (by (repeat (first | (with_reducible exact k4) | (with_reducible refine Blk.alloc ?_ _) | (with_reducible refine Blk.drew ?_) | (with_reducible refine Blk.far ?_ (by first | (simp; done) | (simp; omega)) _) | (with_reducible refine Blk.turn ?_ (by with_reducible assumption) (by omega))))) (by rfl) (by kernel_rfl) (by simp [Value.oneCell']) ?_; intro wt k4n ht))
  have hb4 : Below w1.heap.size w1 wt := bturn (balloc (Below.refl _ _) _) ht (Nat.le_refl _)
  have kb2 := HB1.out.step hb4
  have kr2 := kr1.step hb4
  have h2 := HP1.out.step hb4
  have hlw2 : w1.heap.size < wt.heap.size := k4n.lt
  clear qu0 zu0 hlu hllu hp1 k4 kr1
  have HB2 := Lib.hid kb2
  have hlu := kb2.lt; have hllu := lts hlu; have qu0 := kb2.cell 0; simp at qu0; have zu0 := kb2.frozen 0; have Hkb2 := Lib.hid kb2; clear kb2
  go_wp2_with fail
  refine (K2.out _ h2).mono ?_
  cases O with
  | none =>
    rintro e w3 ⟨rfl, h3, g3⟩
    dsimp only [cellsV, zeroV]
    have k43 := k4n.gr g3 (by omega)
    have kr3 := kr2.gr g3 (by omega)
    have kb3 := HB2.out.gr g3 (by omega)
    have hz3 := g3.size
    have gall : Gr b w w3 := (g0.bstep hb4).trans g3
    obtain ⟨e1, e2⟩ := Prod.mk.inj HS.out
    subst e1 e2
    clear qu0 zu0 hlu hllu k4n kr2 h2 HS
    have HB3 := Lib.hid kb3
    have HP3 := Lib.hid h3
    have hlu := kb3.lt; have hllu := lts hlu; have qu0 := kb3.cell 0; simp at qu0; have zu0 := kb3.frozen 0; have Hkb3 := Lib.hid kb3; clear kb3
    have k5 : Blk (w3.alloc (.cells #[.int .i64 0, .int .i64 0, .int .i64 0, .string ⟨#[]⟩, .int .i64 0] 25)) w3.heap.size 25 #[.int .i64 0, .int .i64 0, .int .i64 0, .string ⟨#[]⟩, .int .i64 0] := Blk.new _ _ _
    go_upto_region 4 with (first | (refine wpList_store_blk k5 rfl _ _ _ (by rfl) _ (by rfl) (by rfl) (by (repeat (first | (with_reducible exact k5) | (with_reducible refine Blk.alloc ?_ _) | (with_reducible refine Blk.drew ?_) | (with_reducible refine Blk.far ?_ (by first | (simp; done) | (simp; omega)) _) | (with_reducible refine Blk.turn ?_ (by with_reducible assumption) (by omega))))) (by rfl) (by kernel_rfl) (by simp [Value.oneCell']) ?_; intro wt k5n ht))
    have hb5 : Below w3.heap.size w3 wt := bturn (balloc (Below.refl _ _) _) ht (Nat.le_refl _)
    have kb4 := HB3.out.step hb5
    have kr4 := kr3.step hb5
    have h4 := HP3.out.step hb5
    clear qu0 zu0 hlu hllu
    have hlu := kb4.lt; have hllu := lts hlu; have qu0 := kb4.cell 0; simp at qu0; have zu0 := kb4.frozen 0; have Hkb4 := Lib.hid kb4; clear kb4
    go_wp2_with fail
    refine (KF.out _ h4).mono ?_
    rintro e w5 ⟨rfl, h5, g5⟩
    have kr5 := kr4.gr g5 (by omega)
    have kv5 := k5n.gr g5 (by omega)
    go_wp2_with (first | (refine wpList_load_blk kv5 rfl _ _ (by rfl) (by rfl) (by (repeat (first | (with_reducible exact kv5) | (with_reducible refine Blk.alloc ?_ _) | (with_reducible refine Blk.drew ?_) | (with_reducible refine Blk.far ?_ (by first | (simp; done) | (simp; omega)) _) | (with_reducible refine Blk.turn ?_ (by with_reducible assumption) (by omega))))) _ Tryz.underlying25 rfl (by kernel_rfl) ?_) | (refine wpList_store_blk kr5 rfl _ _ _ (by rfl) _ (by rfl) (by rfl) (by (repeat (first | (with_reducible exact kr5) | (with_reducible refine Blk.alloc ?_ _) | (with_reducible refine Blk.drew ?_) | (with_reducible refine Blk.far ?_ (by first | (simp; done) | (simp; omega)) _) | (with_reducible refine Blk.turn ?_ (by with_reducible assumption) (by omega))))) (by rfl) (by kernel_rfl) (by simp [Value.oneCell']) ?_; intro wt kr5n ht))
    refine ret_blk rfl kr5n rfl Tryz.underlying25 rfl (by kernel_rfl) rfl ?_
    exact ⟨rfl, H.out.turnF (by rw [fail_L]; exact HL.out) h5 ht (by omega), Gr.turnFar ((gall.bstep hb5).trans g5) ht (by omega)⟩
  | some v =>
    obtain ⟨vk, vn, vs, vt, vm⟩ := v
    rintro e w3 ⟨rfl, h3, g3⟩
    dsimp only [cellsV]
    have k43 := k4n.gr g3 (by omega)
    have kr3 := kr2.gr g3 (by omega)
    have kb3 := HB2.out.gr g3 (by omega)
    have hz3 := g3.size
    have gall : Gr b w w3 := (g0.bstep hb4).trans g3
    have hr3 := kr3.lt
    have HV2 := Lib.hid (HV.out _ rfl)
    dsimp only at HV2
    clear qu0 zu0 hlu hllu k4n kr2 h2 HV
    have HB3 := Lib.hid kb3
    have HP3 := Lib.hid h3
    obtain ⟨q, hq⟩ : ∃ q, bs vt = q := ⟨_, rfl⟩
    rw [hq]
    have HQ := Lib.hid hq
    clear hq
    have k5 : Blk (w3.alloc (.cells #[.int .i64 0, .int .i64 0, .int .i64 0, .string ⟨#[]⟩, .int .i64 0] 25)) w3.heap.size 25 #[.int .i64 0, .int .i64 0, .int .i64 0, .string ⟨#[]⟩, .int .i64 0] := Blk.new _ _ _
    go_upto_region 4 with (first | (refine wpList_store_blk k5 rfl _ _ _ (by rfl) _ (by rfl) (by rfl) (by (repeat (first | (with_reducible exact k5) | (with_reducible refine Blk.alloc ?_ _) | (with_reducible refine Blk.drew ?_) | (with_reducible refine Blk.far ?_ (by first | (simp; done) | (simp; omega)) _) | (with_reducible refine Blk.turn ?_ (by with_reducible assumption) (by omega))))) (by rfl) (by kernel_rfl) (by simp [Value.oneCell']) ?_; intro wt k5n ht))
    have hb5 : Below w3.heap.size w3 wt := bturn (balloc (Below.refl _ _) _) ht (Nat.le_refl _)
    have kb4 := HB3.out.step hb5
    have kr4 := kr3.step hb5
    have k44 := k43.step hb5
    have h4 := HP3.out.step hb5
    have hl5 := k5n.lt
    cases M with
    | false =>
      obtain ⟨e1, e2⟩ := Prod.mk.inj HS.out
      subst e1 e2
      go_wp2_with (first | (refine wpList_load_blk k5n rfl _ _ (by rfl) (by rfl) (by (repeat (first | (with_reducible exact k5n) | (with_reducible refine Blk.alloc ?_ _) | (with_reducible refine Blk.drew ?_) | (with_reducible refine Blk.far ?_ (by first | (simp; done) | (simp; omega)) _) | (with_reducible refine Blk.turn ?_ (by with_reducible assumption) (by omega))))) _ Tryz.underlying25 rfl (by kernel_rfl) ?_) | (refine wpList_store_blk kr4 rfl _ _ _ (by rfl) _ (by rfl) (by rfl) (by (repeat (first | (with_reducible exact kr4) | (with_reducible refine Blk.alloc ?_ _) | (with_reducible refine Blk.drew ?_) | (with_reducible refine Blk.far ?_ (by first | (simp; done) | (simp; omega)) _) | (with_reducible refine Blk.turn ?_ (by with_reducible assumption) (by omega))))) (by rfl) (by kernel_rfl) (by simp [Value.oneCell']) ?_; intro wt kr4n ht))
      refine ret_blk rfl kr4n rfl Tryz.underlying25 rfl (by kernel_rfl) rfl ?_
      exact ⟨by rw [← HQ.out]; rfl, H.out.turnF HL.out h4 ht (by omega), Gr.turnFar (gall.bstep hb5) ht (by omega)⟩
    | true =>
      by_cases hk : vk = 1
      · subst hk
        obtain ⟨e1, e2⟩ := Prod.mk.inj HS.out
        subst e1 e2
        have K5 := Lib.hid k5n
        have H4 := Lib.hid h4
        have hlb4 := h4.blk.lt
        have sd := (HV2.out rfl).2
        obtain ⟨b1, b2, b3, b4, _⟩ := sound_bd sd
        have hN : negS vn vs = ⟨-vn, vs, 0⟩ := by unfold negS; rw [if_pos sd]
        have KN := Lib.hid (neg_any vn vs ⟨by omega, by omega⟩ ⟨by omega, by omega⟩)
        rw [hN] at KN
        clear h4 k43 kb3 sd b1 b2 b3 b4 hN
        have hlu := kb4.lt; have hllu := lts hlu; have qu0 := kb4.cell 0; simp at qu0; have zu0 := kb4.frozen 0; have Hkb4 := Lib.hid kb4; clear kb4
        have hlv := k5n.lt; have hllv := lts hlv; have qv0 := k5n.cell 0; have qv1 := k5n.cell 1; have qv2 := k5n.cell 2; have qv3 := k5n.cell 3; have qv4 := k5n.cell 4; simp at qv0 qv1 qv2 qv3 qv4; have zv0 := k5n.frozen 0; have zv1 := k5n.frozen 1; have zv2 := k5n.frozen 2; have zv3 := k5n.frozen 3; have zv4 := k5n.frozen 4; have Hk5n := Lib.hid k5n; clear k5n
        go_wp2_with fail
        refine (KN.out _).mono ?_
        rintro e w5 ⟨rfl, hb6⟩
        dsimp only
        have k6 := K5.out.step hb6
        have kr6 := kr4.step hb6
        have h6 := H4.out.step hb6
        have K6 := Lib.hid k6
        have hl6 := h6.blk.lt
        clear qu0 zu0 hlu hllu qv0 qv1 qv2 qv3 qv4 zv0 zv1 zv2 zv3 zv4 hlv hllv
        have hlx := k6.lt; have hllx := lts hlx; have qx0 := k6.cell 0; have qx1 := k6.cell 1; have qx2 := k6.cell 2; have qx3 := k6.cell 3; have qx4 := k6.cell 4; simp at qx0 qx1 qx2 qx3 qx4; have zx0 := k6.frozen 0; have zx1 := k6.frozen 1; have zx2 := k6.frozen 2; have zx3 := k6.frozen 3; have zx4 := k6.frozen 4; have Hk6 := Lib.hid k6; clear k6
        go_upto_region 11 with fail
        have k7 : Blk ((w5.setCell ⟨w3.heap.size, 1, none⟩ (.int .i64 (-vn))).setCell ⟨w3.heap.size, 2, none⟩ (.int .i64 vs)) w3.heap.size 25 #[.int .i64 1, .int .i64 (-vn), .int .i64 vs, .string q, .int .i64 vm] := by
          have := (K6.out.set_ 1 (.int .i64 (-vn))).set_ 2 (.int .i64 vs)
          simpa using this
        clear qx0 qx1 qx2 qx3 qx4 zx0 zx1 zx2 zx3 zx4
        go_wp2_with (first | (refine wpList_load_blk k7 rfl _ _ (by rfl) (by rfl) (by (repeat (first | (with_reducible exact k7) | (with_reducible refine Blk.alloc ?_ _) | (with_reducible refine Blk.drew ?_) | (with_reducible refine Blk.far ?_ (by first | (simp; done) | (simp; omega)) _) | (with_reducible refine Blk.turn ?_ (by with_reducible assumption) (by omega))))) _ Tryz.underlying25 rfl (by kernel_rfl) ?_) | (refine wpList_store_blk kr6 rfl _ _ _ (by rfl) _ (by rfl) (by rfl) (by (repeat (first | (with_reducible exact kr6) | (with_reducible refine Blk.alloc ?_ _) | (with_reducible refine Blk.drew ?_) | (with_reducible refine Blk.far ?_ (by first | (simp; done) | (simp; omega)) _) | (with_reducible refine Blk.turn ?_ (by with_reducible assumption) (by omega))))) (by rfl) (by kernel_rfl) (by simp [Value.oneCell']) ?_; intro wt kr6n ht))
        refine ret_blk rfl kr6n rfl Tryz.underlying25 rfl (by kernel_rfl) rfl ?_
        have hL7 : p.L = P.adv.L := HL.out
        have hP7 := H.out.turnF hL7 (H.out.turnF hL7 (H.out.turnF hL7 h6 (Turned.setCell w5 w3.heap.size 1 (.int .i64 (-vn))) (by omega)) (Turned.setCell _ w3.heap.size 2 (.int .i64 vs)) (by omega)) ht (by omega)
        exact ⟨by rw [← HQ.out]; rfl, hP7, Gr.turnFar ((((gall.bstep hb5).bstep hb6).turnFar (Turned.setCell w5 w3.heap.size 1 (.int .i64 (-vn))) (by omega)).turnFar (Turned.setCell _ w3.heap.size 2 (.int .i64 vs)) (by omega)) ht (by omega)⟩
      · have hs : ((⟨vk, vn, vs, vt, vm⟩ : Vl), P.fail 5) = (V, Q) := by
          rw [← HS.out]
          unfold litO
          simp only [if_true]
          exact (if_neg hk).symm
        obtain ⟨e1, e2⟩ := Prod.mk.inj hs
        subst e1 e2
        have hkb : (vk != 1) = true := by simpa using hk
        have K5 := Lib.hid k5n
        have H4 := Lib.hid h4
        have hlb4 := h4.blk.lt
        have hpb := h4.blk
        have KB4 := Lib.hid kb4
        have KR4 := Lib.hid kr4
        have hlr4 := kr4.lt
        clear h4 k43 kb3 kr4 hs
        have hlu := kb4.lt; have hllu := lts hlu; have qu0 := kb4.cell 0; simp at qu0; have zu0 := kb4.frozen 0; have Hkb4 := Lib.hid kb4; clear kb4
        have hlv := k5n.lt; have hllv := lts hlv; have qv0 := k5n.cell 0; have qv1 := k5n.cell 1; have qv2 := k5n.cell 2; have qv3 := k5n.cell 3; have qv4 := k5n.cell 4; simp at qv0 qv1 qv2 qv3 qv4; have zv0 := k5n.frozen 0; have zv1 := k5n.frozen 1; have zv2 := k5n.frozen 2; have zv3 := k5n.frozen 3; have zv4 := k5n.frozen 4; have Hk5n := Lib.hid k5n; clear k5n
        go_upto_region 8 with (first | (refine wpList_load_blk k44 rfl _ _ (by rfl) (by rfl) (by (repeat (first | (with_reducible exact k44) | (with_reducible refine Blk.alloc ?_ _) | (with_reducible refine Blk.drew ?_) | (with_reducible refine Blk.far ?_ (by first | (simp; done) | (simp; omega)) _) | (with_reducible refine Blk.turn ?_ (by with_reducible assumption) (by omega))))) _ Tryz.underlying69 rfl (by kernel_rfl) ?_) | (refine wpList_store_blk hpb rfl _ _ _ (by rfl) _ (by rfl) (by rfl) (by (repeat (first | (with_reducible exact hpb) | (with_reducible refine Blk.alloc ?_ _) | (with_reducible refine Blk.drew ?_) | (with_reducible refine Blk.far ?_ (by first | (simp; done) | (simp; omega)) _) | (with_reducible refine Blk.turn ?_ (by with_reducible assumption) (by omega))))) (by rfl) (by kernel_rfl) (by simp [Value.oneCell']) ?_; intro wt hpbn ht))
        have h7 : PB wt b A c P := ⟨hpbn, H4.out.tm.gr ((Gr.refl b _).turn ht) H4.out.nb, HP1.out.nb, HP1.out.le, HP1.out.big⟩
        have k7 := K5.out.turn ht (by omega)
        have kr7 := KR4.out.turn ht (by omega)
        have kb7 := KB4.out.turn ht (by omega)
        have g7 : Gr b w wt := (gall.bstep hb5).turn ht
        have hz7 := g7.size
        have hl7 := k7.lt
        clear qu0 zu0 hlu hllu qv0 qv1 qv2 qv3 qv4 zv0 zv1 zv2 zv3 zv4 hlv hllv
        have hlu := kb7.lt; have hllu := lts hlu; have qu0 := kb7.cell 0; simp at qu0; have zu0 := kb7.frozen 0; have Hkb7 := Lib.hid kb7; clear kb7
        go_wp2_with fail
        refine (KF.out _ h7).mono ?_
        rintro e w8 ⟨rfl, h8, g8⟩
        have k8 := k7.gr g8 (by omega)
        have kr8 := kr7.gr g8 (by omega)
        go_wp2_with (first | (refine wpList_load_blk k8 rfl _ _ (by rfl) (by rfl) (by (repeat (first | (with_reducible exact k8) | (with_reducible refine Blk.alloc ?_ _) | (with_reducible refine Blk.drew ?_) | (with_reducible refine Blk.far ?_ (by first | (simp; done) | (simp; omega)) _) | (with_reducible refine Blk.turn ?_ (by with_reducible assumption) (by omega))))) _ Tryz.underlying25 rfl (by kernel_rfl) ?_) | (refine wpList_store_blk kr8 rfl _ _ _ (by rfl) _ (by rfl) (by rfl) (by (repeat (first | (with_reducible exact kr8) | (with_reducible refine Blk.alloc ?_ _) | (with_reducible refine Blk.drew ?_) | (with_reducible refine Blk.far ?_ (by first | (simp; done) | (simp; omega)) _) | (with_reducible refine Blk.turn ?_ (by with_reducible assumption) (by omega))))) (by rfl) (by kernel_rfl) (by simp [Value.oneCell']) ?_; intro wt kr8n ht))
        refine ret_blk rfl kr8n rfl Tryz.underlying25 rfl (by kernel_rfl) rfl ?_
        exact ⟨by rw [← HQ.out]; rfl, H.out.turnF (by rw [fail_L]; exact HL.out) h8 ht (by omega), Gr.turnFar (g7.trans g8) ht (by omega)⟩
end Go.Proofs.YtkkeplmaphcblaaGreatDoor
