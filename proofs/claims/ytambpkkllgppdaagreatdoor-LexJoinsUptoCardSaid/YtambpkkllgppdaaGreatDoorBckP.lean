/- Two contracts of one call at one world give the same answer. lex.one at any token, at this program. Tokens that are written are read as they were, plainly. -/
import Derived.Test.YtambpkkllgppdaaGreatDoorKit
import Derived.Calls
import Derived.Test.YtambpkkllgppdaaGreatDoorOneP
import Derived.Test.YtambpkkllgppdaaGreatDoorTokP
import Derived.Test.YtambpkkllgppdaaGreatDoorLexE
import Derived.Test.YtambpkkllgppdaaGreatDoorBackMath
namespace Go.Proofs.YtambpkkllgppdaaGreatDoor

theorem calls_det {P : Program} {f : FuncId} {args : Array Value} {w : World} {v1 v2 : Value} {Q1 Q2 : World → Prop} (hi : P.inits.idxOf? f = none)
    (h1 : Calls P f args w fun e w' => e = .returned v1 ∧ Q1 w') (h2 : Calls P f args w fun e w' => e = .returned v2 ∧ Q2 w') : v1 = v2 := by
  obtain ⟨e1, w1, fr1, ⟨rfl, _⟩, s1, g1, l1⟩ := h1 []
  obtain ⟨e2, w2, fr2, ⟨rfl, _⟩, s2, g2, l2⟩ := h2 []
  have d1 := step_leave_done l1 (by rw [g1]; exact hi)
  have d2 := step_leave_done l2 (by rw [g2]; exact hi)
  obtain ⟨n1, r1⟩ := s1
  obtain ⟨n2, r2⟩ := s2
  have key : ∀ (a b : Nat) (fr fr' : Frame) (u u' : World) (x x' : Value), runN P a (lone (Frame.enter P f args .normal) [] w) = .next (lone fr [] u) → runN P b (lone (Frame.enter P f args .normal) [] w) = .next (lone fr' [] u') → step P (lone fr [] u) = .ended (.done x) u → step P (lone fr' [] u') = .ended (.done x') u' → a ≤ b → x = x' := by
    intro a b fr fr' u u' x x' ra rb da db hab
    obtain ⟨k, rfl⟩ : ∃ k, b = a + k := ⟨b - a, by omega⟩
    rw [runN_add, ra] at rb
    cases k with
    | zero =>
      have h3 : lone fr [] u = lone fr' [] u' := by simpa [runN] using rb
      rw [h3] at da
      rw [da] at db
      injection db with h4 h5
      injection h4
    | succ k =>
      simp [runN, da] at rb
  rcases Nat.le_total n1 n2 with h | h
  · exact key n1 n2 fr1 fr2 w1 w2 v1 v2 r1 r2 d1 d2 h
  · exact (key n2 n1 fr2 fr1 w2 w1 v2 v1 r2 r1 d2 d1 h).symm
end Go.Proofs.YtambpkkllgppdaaGreatDoor

namespace Go.Proofs.YtambpkkllgppdaaGreatDoor
open Go.RowKit

/-- A number as a text. -/
def dT (n s : Int) : Bs × Int := if soundS n s = true then (textS (decide (n < 0)) (mag n).toNat s.toNat, 0) else ([], 2)
theorem mag_nat (n : Int) : mag n = ((mag n).toNat : Int) := by unfold mag; split <;> omega
theorem dtext (n s : Int) (hn : I64 n) (hs : I64 s) (w : World) (htab : Lib.TabIs Tryz.prog w "internal/strconv.uint64pow10" .u64 Lib.pow10Tab) :
    Calls Tryz.prog 44 #[.agg #[.int .i64 n, .int .i64 s]] w fun e w' => e = .returned (.tuple #[.string (bs (dT n s).1), .int .i64 (dT n s).2]) ∧ Below w.heap.size w w' := by
  unfold dT
  by_cases h : soundS n s = true
  · rw [if_pos h]
    obtain ⟨b1, b2, _⟩ := sound_bd h
    exact text_any n s (mag n).toNat s.toNat hn (by omega) h (mag_nat n) _ rfl w htab
  · rw [if_neg h]
    exact text_form n s hn hs h w
theorem textU_len {N sc : Nat} (hN : N < 1000000000000) (hs : sc ≤ 6) : (textU N sc).length ≤ 20 := by
  have hW : N / 10 ^ sc < 10 ^ 12 := Nat.lt_of_le_of_lt (Nat.div_le_self _ _) (by omega)
  have hWd := nDigits_le (by decide) hW
  unfold textU
  split
  · rename_i h0; subst h0; simp only [Nat.pow_zero, Nat.div_one] at hWd; rw [Lib.decDigits_length]; omega
  · rw [List.length_append, Lib.decDigits_length, List.length_cons, pd_length]; omega
theorem dT_len (n s : Int) : (dT n s).1.length ≤ 21 := by
  unfold dT
  split
  · rename_i h
    obtain ⟨b1, b2, b3, b4, _⟩ := sound_bd h
    have hm := mag_bd b3 b4
    have hn := mag_nat n
    have h1 := textU_len (N := (mag n).toNat) (sc := s.toNat) (by omega) (by omega)
    show (textS _ _ _).length ≤ 21
    unfold textS
    split
    · rw [List.length_cons]; omega
    · omega
  · simp
end Go.Proofs.YtambpkkllgppdaaGreatDoor
namespace Go.Proofs.YtambpkkllgppdaaGreatDoor.Days
open Go.RowKit
theorem texts_len (n : Int) : ∃ (l : Bs) (e : Int), l.length ≤ 10 ∧ (∀ w, Lib.TabIs Tryz.prog w "internal/strconv.uint64pow10" .u64 Lib.pow10Tab → Calls Tryz.prog 47 #[.int .i64 n] w fun x w' => x = .returned (.tuple #[.string (bs l), .int .i64 e]) ∧ Below w.heap.size w w') ∧ (∀ w, Calls Tryz.prog 51 #[.int .i64 n] w fun x w' => x = .returned (.tuple #[.string (bs l), .int .i64 e]) ∧ Below w.heap.size w w') := by
  by_cases h : n < 0 ∨ 3652058 < n
  · refine ⟨[], 3, by simp, fun w _ => (text_bad n h w).mono ?_, fun w => rtext_bad n h w⟩
    rintro x w' ⟨rfl, rfl⟩
    exact ⟨rfl, Below.refl _ _⟩
  · obtain ⟨y, m, a, b, c, d, e, f, g⟩ := date_of n (by omega) (by omega)
    exact ⟨_, 0, Nat.le_of_eq (textL_length _ _ _), fun w ht => text_ok n y m (by omega) (by omega) a b c d e f g w ht, fun w => rtext_ok n y m (by omega) (by omega) a b c d e f g w⟩
end Go.Proofs.YtambpkkllgppdaaGreatDoor.Days
namespace Go.Proofs.YtambpkkllgppdaaGreatDoor
open Go.RowKit

/-- A day as a text. -/
noncomputable def yT (n : Int) : Bs × Int := (Classical.choose (Days.texts_len n), Classical.choose (Classical.choose_spec (Days.texts_len n)))
theorem yT_spec (n : Int) : (yT n).1.length ≤ 10 ∧ (∀ w, Lib.TabIs Tryz.prog w "internal/strconv.uint64pow10" .u64 Lib.pow10Tab → Calls Tryz.prog 47 #[.int .i64 n] w fun x w' => x = .returned (.tuple #[.string (bs (yT n).1), .int .i64 (yT n).2]) ∧ Below w.heap.size w w') ∧ (∀ w, Calls Tryz.prog 51 #[.int .i64 n] w fun x w' => x = .returned (.tuple #[.string (bs (yT n).1), .int .i64 (yT n).2]) ∧ Below w.heap.size w w') :=
  Classical.choose_spec (Classical.choose_spec (Days.texts_len n))

/-- What is written for a token, before it is read back. -/
noncomputable def outS (t : Ti) : Option Bs :=
  if t.k = 1 then (if ¬ t.n < 0 ∧ (dT t.n t.s).2 = 0 ∧ t.t = [] ∧ t.m = 0 then some (dT t.n t.s).1 else none)
  else if t.k = 2 then (if t.n = 0 ∧ t.s = 0 ∧ t.m = 0 then some (34 :: (escB t.t ++ [34])) else none)
  else if t.k = 3 then (if (yT t.m).2 = 0 ∧ t.t = [] ∧ t.n = 0 ∧ t.s = 0 then some (64 :: 34 :: ((yT t.m).1 ++ [34])) else none)
  else if t.k = 4 ∨ t.k = 5 then (if t.n = 0 ∧ t.s = 0 ∧ t.m = 0 then some t.t else none)
  else none
def okT (N : Nx) (o : Bs) (t : Ti) : Prop := N.e = 0 ∧ N.n = o.length ∧ N.t.k = t.k ∧ N.t.t = t.t ∧ N.t.n = t.n ∧ N.t.s = t.s ∧ N.t.m = t.m
open Classical in
noncomputable def wrS (x : Lx) (t : Ti) : Option Bs :=
  match outS t with
  | none => none
  | some o => if okT (nextS x (o ++ [32])) o t then some o else none

theorem bs_toList (l : Bs) : (bs l).toList = l := by rw [Lib.toList_data]; rfl
theorem tkeq_iff (k a n s m k' a' n' s' m' : Int) (l l' : Bs) : tkeq k a (bs l) n s m k' a' (bs l') n' s' m' = true ↔ k = k' ∧ a = a' ∧ l = l' ∧ n = n' ∧ s = s' ∧ m = m' := by
  unfold tkeq
  rw [bs_toList, bs_toList]
  simp [and_assoc]
open Classical in
/-- The answer's second part. -/
theorem ok_eq (N : Nx) (o : Bs) (t : Ti) (c : ByteArray) (hc : c.size = o.length) :
    (N.e == 0 && ((N.n : Int) == (c.size : Int) && tkeq N.t.k t.a (bs N.t.t) N.t.n N.t.s N.t.m t.k t.a (bs t.t) t.n t.s t.m)) = decide (okT N o t) := by
  rw [hc]
  by_cases h : okT N o t
  · obtain ⟨h1, h2, h3, h4, h5, h6, h7⟩ := h
    rw [decide_eq_true (show okT N o t from ⟨h1, h2, h3, h4, h5, h6, h7⟩), h1, h2, (tkeq_iff _ _ _ _ _ _ _ _ _ _ _ _).2 ⟨h3, rfl, h4, h5, h6, h7⟩]
    simp
  · rw [decide_eq_false h, Bool.eq_false_iff]
    intro hh
    simp only [Bool.and_eq_true, beq_iff_eq] at hh
    obtain ⟨h1, h2, h3⟩ := hh
    obtain ⟨g1, _, g2, g3, g4, g5⟩ := (tkeq_iff _ _ _ _ _ _ _ _ _ _ _ _).1 h3
    exact h ⟨h1, by omega, g1, g2, g3, g4, g5⟩
theorem bs_app (a b : Bs) : bs a ++ bs b = bs (a ++ b) := by
  apply ByteArray.ext
  apply Array.toList_inj.1
  rw [ByteArray.data_append, Array.toList_append]
  rfl

open Classical in
theorem one_all (x : Lx) (m : Int) (H : LxOK x m) (t : Ti) (hok : t.Ok) (hlen : t.t.length ≤ 1900000) (w : World) (hw : OKW m w) :
    Calls Tryz.prog 24 #[.agg #[.int .i64 t.k, .int .i64 t.a, .string (bs t.t), .int .i64 t.n, .int .i64 t.s, .int .i64 t.m]] w fun e w' => (∃ u, e = .returned (.tuple #[.string u, .bool (wrS x t).isSome]) ∧ (∀ o, wrS x t = some o → u = bs o)) ∧ Below w.heap.size w w' := by
  have hNX : ∀ o : Bs, o.length ≤ 3900000 → ∀ W, Below w.heap.size w W → Calls Tryz.prog 17 #[.string (bs (o ++ [32]))] W fun e w' => e = .returned (.tuple #[.agg #[.int .i64 (nextS x (o ++ [32])).t.k, .int .i64 ((nextS x (o ++ [32])).t.a : Int), .string (bs (nextS x (o ++ [32])).t.t), .int .i64 (nextS x (o ++ [32])).t.n, .int .i64 (nextS x (o ++ [32])).t.s, .int .i64 (nextS x (o ++ [32])).t.m], .int .i64 ((nextS x (o ++ [32])).n : Int), .int .i64 (nextS x (o ++ [32])).e]) ∧ Below W.heap.size W w' := fun o ho W hb =>
    next_any x m H (bs (o ++ [32])) (o ++ [32]) rfl (by rw [bs_size, List.length_append]; simp; omega) (by rw [bs_size, List.length_append]; simp) W (hw.step hb)
  have good : ∀ (o : Bs), outS t = some o → ∀ (e : Ending) (w' : World), (∃ (b : Bool), e = .returned (.tuple #[.string (bs o), .bool b]) ∧ b = ((nextS x (o ++ [32])).e == 0 && (((nextS x (o ++ [32])).n : Int) == ((bs o).size : Int) && tkeq (nextS x (o ++ [32])).t.k t.a (bs (nextS x (o ++ [32])).t.t) (nextS x (o ++ [32])).t.n (nextS x (o ++ [32])).t.s (nextS x (o ++ [32])).t.m t.k t.a (bs t.t) t.n t.s t.m)) ∧ Below w.heap.size w w') → ((∃ u, e = .returned (.tuple #[.string u, .bool (wrS x t).isSome]) ∧ (∀ o, wrS x t = some o → u = bs o)) ∧ Below w.heap.size w w') := by
    rintro o ho e w' ⟨b, rfl, hb, hbel⟩
    rw [ok_eq _ o t (bs o) (bs_size o)] at hb
    have hwr : wrS x t = if okT (nextS x (o ++ [32])) o t then some o else none := by unfold wrS; rw [ho]
    by_cases h : okT (nextS x (o ++ [32])) o t
    · rw [decide_eq_true h] at hb
      rw [if_pos h] at hwr
      subst hb
      exact ⟨⟨_, by rw [hwr]; rfl, fun o' ho' => by rw [hwr] at ho'; cases ho'; rfl⟩, hbel⟩
    · rw [decide_eq_false h] at hb
      rw [if_neg h] at hwr
      subst hb
      exact ⟨⟨_, by rw [hwr]; rfl, fun o' ho' => by rw [hwr] at ho'; cases ho'⟩, hbel⟩
  have bad : outS t = none → ∀ (e : Ending) (w' : World), ((∃ u : ByteArray, e = .returned (.tuple #[.string u, .bool false])) ∧ Below w.heap.size w w') → ((∃ u, e = .returned (.tuple #[.string u, .bool (wrS x t).isSome]) ∧ (∀ o, wrS x t = some o → u = bs o)) ∧ Below w.heap.size w w') := by
    rintro ho e w' ⟨⟨u, rfl⟩, hbel⟩
    have hwr : wrS x t = none := by unfold wrS; rw [ho]
    exact ⟨⟨u, by rw [hwr]; rfl, fun o' ho' => by rw [hwr] at ho'; cases ho'⟩, hbel⟩
  have bare : ∀ (n s m' : Int) (l : Bs), tkeq t.k t.a (bs l) n s m' t.k t.a (bs t.t) t.n t.s t.m = true ↔ l = t.t ∧ n = t.n ∧ s = t.s ∧ m' = t.m := fun n s m' l => by
    rw [tkeq_iff]
    simp
  have bareF : ∀ (n s m' : Int) (l : Bs), ¬ (l = t.t ∧ n = t.n ∧ s = t.s ∧ m' = t.m) → tkeq t.k t.a (bs l) n s m' t.k t.a (bs t.t) t.n t.s t.m = false := fun n s m' l h => by
    rw [Bool.eq_false_iff]
    intro hh
    exact h ((bare n s m' l).1 hh)
  have hbl : (⟨#[]⟩ : ByteArray) = bs [] := rfl
  have h32 : ∀ o : Bs, bs o ++ ⟨#[32]⟩ = bs (o ++ [32]) := fun o => bs_app o [32]
  by_cases k1 : t.k = 1
  · have hT := fun W (hb : Below w.heap.size w W) => dtext t.n t.s hok.n hok.s W (hw.step hb).tab
    rw [k1] at bare bareF good ⊢
    by_cases hn : t.n < 0
    · exact (gone_1n t.a t.n t.s t.m (bs t.t) _ _ w hn (Lib.hid hT)).mono (bad (by unfold outS; rw [if_pos k1, if_neg (fun h => h.1 hn)]))
    · by_cases he : (dT t.n t.s).2 = 0
      · rw [he] at hT
        by_cases hb : t.t = [] ∧ t.m = 0
        · have ho : outS t = some (dT t.n t.s).1 := by unfold outS; rw [if_pos k1, if_pos ⟨hn, he, hb.1, hb.2⟩]
          have hl := dT_len t.n t.s
          exact (gone_1 t.a t.n t.s t.m (bs t.t) _ _ _ _ _ _ _ _ _ _ w hn (h32 _) (by rw [bs_size]; omega) ((bare t.n t.s 0 []).2 ⟨hb.1.symm, rfl, rfl, hb.2.symm⟩) (Lib.hid hT) (Lib.hid (hNX _ (by omega)))).mono (good _ ho)
        · exact (gone_1b t.a t.n t.s t.m (bs t.t) _ w hn (bareF t.n t.s 0 [] (fun h => hb ⟨h.1.symm, h.2.2.2.symm⟩)) (Lib.hid hT)).mono (bad (by unfold outS; rw [if_pos k1, if_neg (fun h => hb h.2.2)]))
      · exact (gone_1e t.a t.n t.s t.m (bs t.t) _ _ w hn he (Lib.hid hT)).mono (bad (by unfold outS; rw [if_pos k1, if_neg (fun h => he h.2.1)]))
  · by_cases k2 : t.k = 2
    · rw [k2] at bare bareF good ⊢
      have hesc := escB_two t.t
      by_cases hb : t.n = 0 ∧ t.s = 0 ∧ t.m = 0
      · have ho : outS t = some (34 :: (escB t.t ++ [34])) := by unfold outS; rw [if_neg k1, if_pos k2, if_pos hb]
        have hcat : ((⟨#[34]⟩ : ByteArray) ++ bs (escB t.t)) ++ ⟨#[34]⟩ = bs (34 :: (escB t.t ++ [34])) := by
          show bs [34] ++ bs (escB t.t) ++ bs [34] = _
          rw [bs_app, bs_app]
          simp
        have hlo : (34 :: (escB t.t ++ [34])).length = (escB t.t).length + 2 := by simp
        exact (gone_2 t.a t.n t.s t.m (bs t.t) _ _ _ _ _ _ _ _ _ _ w (by rw [bs_size]; exact hlen) (bs (escB t.t)) rfl (by rw [bs_size]; omega) (by rw [bs_size]; omega) (by show (bs [34] ++ bs (escB t.t)).size + 1 ≤ _; rw [bs_app, bs_size, List.length_append]; simp; omega) (by rw [bs_size]; omega) hcat (h32 _) (by rw [bs_size]; omega) ((bare 0 0 0 t.t).2 ⟨rfl, hb.1.symm, hb.2.1.symm, hb.2.2.symm⟩) (Lib.hid (hNX _ (by omega)))).mono (good _ ho)
      · have hcat : ((⟨#[34]⟩ : ByteArray) ++ bs (escB t.t)) ++ ⟨#[34]⟩ = bs (34 :: (escB t.t ++ [34])) := by
          show bs [34] ++ bs (escB t.t) ++ bs [34] = _
          rw [bs_app, bs_app]
          simp
        exact (gone_2b t.a t.n t.s t.m (bs t.t) _ w (by rw [bs_size]; exact hlen) (bs (escB t.t)) rfl (by rw [bs_size]; omega) (by rw [bs_size]; omega) (by show (bs [34] ++ bs (escB t.t)).size + 1 ≤ _; rw [bs_app, bs_size, List.length_append]; simp; omega) (by rw [bs_size]; omega) hcat (bareF 0 0 0 t.t (fun h => hb ⟨h.2.1.symm, h.2.2.1.symm, h.2.2.2.symm⟩))).mono (bad (by unfold outS; rw [if_neg k1, if_pos k2, if_neg hb]))
    · by_cases k3 : t.k = 3
      · obtain ⟨hl, hy, _⟩ := yT_spec t.m
        have hT := fun W (hb : Below w.heap.size w W) => hy W (hw.step hb).tab
        rw [k3] at bare bareF good ⊢
        have hos : (bs (yT t.m).1).size ≤ 1000 := by rw [bs_size]; omega
        by_cases he : (yT t.m).2 = 0
        · rw [he] at hT
          have hcat : ((⟨#[64, 34]⟩ : ByteArray) ++ bs (yT t.m).1) ++ ⟨#[34]⟩ = bs (64 :: 34 :: ((yT t.m).1 ++ [34])) := by
            show bs [64, 34] ++ bs (yT t.m).1 ++ bs [34] = _
            rw [bs_app, bs_app]
            simp
          by_cases hb : t.t = [] ∧ t.n = 0 ∧ t.s = 0
          · have ho : outS t = some (64 :: 34 :: ((yT t.m).1 ++ [34])) := by unfold outS; rw [if_neg k1, if_neg k2, if_pos k3, if_pos ⟨he, hb⟩]
            have hlo : (64 :: 34 :: ((yT t.m).1 ++ [34])).length = (yT t.m).1.length + 3 := by simp
            exact (gone_3 t.a t.n t.s t.m (bs t.t) _ _ _ _ _ _ _ _ _ _ _ w hcat hos (h32 _) (by rw [bs_size]; omega) ((bare 0 0 t.m []).2 ⟨hb.1.symm, hb.2.1.symm, hb.2.2.symm, rfl⟩) (Lib.hid hT) (Lib.hid (hNX _ (by omega)))).mono (good _ ho)
          · exact (gone_3b t.a t.n t.s t.m (bs t.t) _ _ w hcat hos (bareF 0 0 t.m [] (fun h => hb ⟨h.1.symm, h.2.1.symm, h.2.2.1.symm⟩)) (Lib.hid hT)).mono (bad (by unfold outS; rw [if_neg k1, if_neg k2, if_pos k3, if_neg (fun h => hb h.2)]))
        · exact (gone_3e t.a t.n t.s t.m (bs t.t) _ _ w hos he (Lib.hid hT)).mono (bad (by unfold outS; rw [if_neg k1, if_neg k2, if_pos k3, if_neg (fun h => he h.1)]))
      · by_cases k4 : t.k = 4
        · rw [k4] at bare bareF good ⊢
          by_cases hb : t.n = 0 ∧ t.s = 0 ∧ t.m = 0
          · have ho : outS t = some t.t := by unfold outS; rw [if_neg k1, if_neg k2, if_neg k3, if_pos (.inl k4), if_pos hb]
            exact (gone_4 t.a t.n t.s t.m (bs t.t) _ _ _ _ _ _ _ _ _ w (h32 _) (by rw [bs_size]; omega) ((bare 0 0 0 t.t).2 ⟨rfl, hb.1.symm, hb.2.1.symm, hb.2.2.symm⟩) (Lib.hid (hNX _ (by omega)))).mono (good _ ho)
          · exact (gone_4b t.a t.n t.s t.m (bs t.t) w (bareF 0 0 0 t.t (fun h => hb ⟨h.2.1.symm, h.2.2.1.symm, h.2.2.2.symm⟩))).mono (bad (by unfold outS; rw [if_neg k1, if_neg k2, if_neg k3, if_pos (.inl k4), if_neg hb]))
        · by_cases k5 : t.k = 5
          · rw [k5] at bare bareF good ⊢
            by_cases hb : t.n = 0 ∧ t.s = 0 ∧ t.m = 0
            · have ho : outS t = some t.t := by unfold outS; rw [if_neg k1, if_neg k2, if_neg k3, if_pos (.inr k5), if_pos hb]
              exact (gone_5 t.a t.n t.s t.m (bs t.t) _ _ _ _ _ _ _ _ _ w (h32 _) (by rw [bs_size]; omega) ((bare 0 0 0 t.t).2 ⟨rfl, hb.1.symm, hb.2.1.symm, hb.2.2.symm⟩) (Lib.hid (hNX _ (by omega)))).mono (good _ ho)
            · exact (gone_5b t.a t.n t.s t.m (bs t.t) w (bareF 0 0 0 t.t (fun h => hb ⟨h.2.1.symm, h.2.2.1.symm, h.2.2.2.symm⟩))).mono (bad (by unfold outS; rw [if_neg k1, if_neg k2, if_neg k3, if_pos (.inr k5), if_neg hb]))
          · exact (gone_0 t.a t.n t.s t.m (bs t.t) t.k w k1 k2 k3 k4 k5).mono (bad (by unfold outS; rw [if_neg k1, if_neg k2, if_neg k3, if_neg (fun h => h.elim k4 k5)]))
end Go.Proofs.YtambpkkllgppdaaGreatDoor

namespace Go.Proofs.YtambpkkllgppdaaGreatDoor

theorem qS_cut : ∀ (k : Nat) (l m : Bs) (p : Bs × Nat), l.length ≤ k → qS (l ++ m) = some p → p.2 ≤ l.length → qS l = some p
  | _, [], m, p, _, h, hp => by
    have hp0 : p.2 = 0 := by simpa using hp
    have := qS_pos _ m p (Nat.le_refl _) h
    omega
  | 0, c :: r, _, _, hk, _, _ => by simp at hk
  | k + 1, c :: r, m, p, hk, h, hp => by
    rw [List.cons_append, qS_cons] at h
    rw [qS_cons]
    rw [List.length_cons] at hk hp
    by_cases h1 : c = 34
    · rw [if_pos h1] at h ⊢
      exact h
    · rw [if_neg h1] at h ⊢
      by_cases h2 : c = 92
      · rw [if_pos h2] at h ⊢
        cases r with
        | nil =>
          exfalso
          cases m with
          | nil => cases h
          | cons d m2 =>
            simp only [List.nil_append] at h
            by_cases h3 : d = 34 ∨ d = 92
            · rw [if_pos h3] at h
              cases hq : qS m2 with
              | none => rw [hq] at h; cases h
              | some q => rw [hq] at h; cases h; simp at hp
            · rw [if_neg h3] at h; cases h
        | cons d r2 =>
          simp only [List.cons_append] at h ⊢
          rw [List.length_cons] at hk hp
          by_cases h3 : d = 34 ∨ d = 92
          · rw [if_pos h3] at h ⊢
            cases hq : qS (r2 ++ m) with
            | none => rw [hq] at h; cases h
            | some q =>
              rw [hq] at h
              cases h
              simp only at hp
              rw [qS_cut k r2 m q (by omega) hq (by omega)]
              rfl
          · rw [if_neg h3] at h; cases h
      · rw [if_neg h2] at h ⊢
        cases hq : qS (r ++ m) with
        | none => rw [hq] at h; cases h
        | some q =>
          rw [hq] at h
          cases h
          simp only at hp
          rw [qS_cut k r m q (by omega) hq (by omega)]
          rfl
where
  qS_pos : ∀ (k : Nat) (l : Bs) (p : Bs × Nat), l.length ≤ k → qS l = some p → 1 ≤ p.2 := fun k l p hk h => (qS_app k l [] p hk h).2.2

/-- A token that was read up to its end does not hang on the blank. -/
theorem next_cut (x : Lx) (o : Bs) (he : (nextS x (o ++ [32])).e = 0) (hn : (nextS x (o ++ [32])).n = o.length) (ho : o ≠ []) : nextS x o = nextS x (o ++ [32]) := by
  match o, ho with
  | c :: r, _ =>
    rw [List.cons_append] at he hn ⊢
    unfold nextS at he hn ⊢
    simp only at he hn ⊢
    by_cases h1 : figs.contains c = true
    · rw [if_pos h1, if_pos h1]
      exact (num_app x (c :: r) []).symm
    · rw [if_neg h1] at he hn ⊢
      rw [if_neg h1]
      by_cases h2 : c = 34
      · rw [if_pos h2] at he hn ⊢
        rw [if_pos h2]
        unfold strS at he hn ⊢
        cases hq : qS (r ++ [32]) with
        | none => rw [hq] at he; cases he
        | some p =>
          rw [hq] at he hn
          simp only at he hn
          split at he
          · cases he
          · rename_i hc
            rw [if_neg hc] at hn
            simp only [List.length_cons] at hn
            rw [qS_cut r.length r [32] p (Nat.le_refl _) hq (by omega)]
      · rw [if_neg h2] at he hn ⊢
        rw [if_neg h2]
        by_cases h3 : c = 64
        · rw [if_pos h3] at he hn ⊢
          rw [if_pos h3]
          unfold dateS at he hn ⊢
          cases hq : quoD (r ++ [32]) with
          | none => rw [hq] at he; cases he
          | some p =>
            rw [hq] at he hn
            simp only at he hn
            split at he
            · cases he
            · rename_i hc
              rw [if_neg hc] at hn
              simp only [List.length_cons] at hn
              have h11 : p.2 = 11 := Classical.byContradiction fun hn => hc (.inr hn)
              have hq2 : quoD r = some p := by
                unfold quoD at hq ⊢
                match r with
                | [] => simp at hn
                | d :: r2 =>
                  by_cases hd : (d :: r2).head? = some 34
                  · have hd2 : (d :: r2 ++ [32]).head? = some 34 := hd
                    rw [if_pos hd2] at hq
                    rw [if_pos hd]
                    rw [List.length_cons] at hn
                    exact qS_cut r2.length r2 [32] p (Nat.le_refl _) hq (by omega)
                  · have hd2 : ¬ (d :: r2 ++ [32]).head? = some 34 := hd
                    rw [if_neg hd2] at hq
                    cases hq
              rw [hq2]
        · rw [if_neg h3, if_neg h3]
          by_cases h4 : lets.contains c = true
          · rw [if_pos h4, if_pos h4]
            exact (name_app (c :: r) []).symm
          · rw [if_neg h4, if_neg h4]
            exact (sign_app (c :: r) [] (by simp)).symm

theorem next_white (x : Lx) (c : UInt8) (r : Bs) (h : whites.contains c = true) : ¬ (nextS x (c :: r)).e = 0 := by
  have hc : c = 32 ∨ c = 9 ∨ c = 13 ∨ c = 10 := by
    rw [List.contains_iff_mem] at h
    simpa [whites] using h
  have hb : nextS x (c :: r) = signS (c :: r) := by
    rcases hc with rfl | rfl | rfl | rfl <;> rfl
  rw [hb]
  have : signS (c :: r) = bad := by
    unfold signS
    rw [List.find?_eq_none.2]
    intro g hg
    simp only [signsL, List.mem_cons, List.not_mem_nil, or_false] at hg
    rcases hc with rfl | rfl | rfl | rfl <;> rcases hg with h | h | h | h | h | h | h | h | h | h | h | h | h | h | h | h <;> subst h <;> simp [List.isPrefixOf]
  rw [this]
  decide
/-- What a text that was written for a token is. -/
theorem wr_next {x : Lx} {t : Ti} {o : Bs} (h : wrS x t = some o) : o ≠ [] ∧ runS whites o = 0 ∧ okT (nextS x o) o t := by
  unfold wrS at h
  cases ho : outS t with
  | none => rw [ho] at h; cases h
  | some o' =>
    rw [ho] at h
    simp only at h
    split at h
    · rename_i hk
      cases h
      have hne : o ≠ [] := by
        rintro rfl
        exact next_white x 32 [] rfl hk.1
      have hcut := next_cut x o hk.1 hk.2.1 hne
      refine ⟨hne, ?_, by rw [hcut]; exact hk⟩
      match o, hne with
      | c :: r, _ =>
        rw [runS_cons]
        cases hw : whites.contains c with
        | true => exact absurd hk.1 (by rw [List.cons_append]; exact next_white x c _ hw)
        | false => rfl
    · cases h

/-- The same token, wherever it stands. -/
def sameT (t : Ti) (u : Tk) : Prop := u.k = t.k ∧ u.t = t.t ∧ u.n = t.n ∧ u.s = t.s ∧ u.m = t.m
theorem back_toks (x : Lx) : ∀ (L : List Ti) (P : List Bs) (pre : Bs) (f a : Nat) (acc : List Tk), allS (L.map (wrS x)) = some P → runS whites pre = pre.length → (pre ++ joinB P).length < f →
    ∃ T : List Tk, toksA x f a (pre ++ joinB P) acc = ⟨acc ++ T, 0, 0⟩ ∧ T.length = L.length ∧ ∀ (i : Nat) (t : Ti) (u : Tk), L[i]? = some t → T[i]? = some u → sameT t u
  | [], P, pre, f, a, acc, hP, hpre, hf => by
    cases hP
    obtain ⟨g, rfl⟩ : ∃ g, f = g + 1 := ⟨f - 1, by omega⟩
    refine ⟨[], ?_, rfl, fun i t u h => by simp at h⟩
    rw [List.append_nil]
    apply toksA_end
    show (pre ++ []).drop (runS whites (pre ++ [])) = []
    rw [List.append_nil, hpre]
    simp
  | t :: L, P, pre, f, a, acc, hP, hpre, hf => by
    rw [List.map_cons] at hP
    cases hw : wrS x t with
    | none => rw [hw] at hP; cases hP
    | some o =>
      rw [hw] at hP
      have hP2 : (allS (L.map (wrS x))).map (o :: ·) = some P := hP
      cases hQ : allS (L.map (wrS x)) with
      | none => rw [hQ] at hP2; cases hP2
      | some Q =>
        rw [hQ] at hP2
        cases hP2
        obtain ⟨hne, h0, hok⟩ := wr_next hw
        obtain ⟨e1, e2, e3, e4, e5, e6, e7⟩ := hok
        obtain ⟨g, rfl⟩ : ∃ g, f = g + 1 := ⟨f - 1, by omega⟩
        -- what stands behind
        obtain ⟨M, hM, hnx⟩ : ∃ M, joinB (o :: Q) = o ++ M ∧ ((Q = [] ∧ M = []) ∨ (Q ≠ [] ∧ M = [32] ++ joinB Q)) := by
          cases Q with
          | nil => exact ⟨[], by simp [joinB], .inl ⟨rfl, rfl⟩⟩
          | cons u R => exact ⟨32 :: joinB (u :: R), rfl, .inr ⟨by simp, rfl⟩⟩
        have hnext : nextS x (o ++ M) = nextS x o := by
          rcases hnx with ⟨_, rfl⟩ | ⟨_, rfl⟩
          · rw [List.append_nil]
          · exact (next_app x o (joinB Q) e1).1
        have hwl : runS whites (o ++ M) = 0 := by
          match o, hne with
          | c :: r, _ =>
            rw [runS_cons] at h0
            rw [List.cons_append, runS_cons]
            split at h0
            · omega
            · rename_i hc; rw [if_neg hc]
        have hr : runS whites (pre ++ (o ++ M)) = pre.length := by rw [runS_all _ _ _ hpre, hwl, Nat.add_zero]
        have hd : (pre ++ (o ++ M)).drop (runS whites (pre ++ (o ++ M))) = o ++ M := by rw [hr]; simp
        rw [hM] at hf ⊢
        obtain ⟨c, r, ho⟩ : ∃ c r, o = c :: r := by
          cases o with
          | nil => exact absurd rfl hne
          | cons c r => exact ⟨c, r, rfl⟩
        have hcons : o ++ M = c :: (r ++ M) := by rw [ho]; rfl
        have hgo := toksA_go (x := x) (f := g) (a := a) (l := pre ++ (o ++ M)) (acc := acc) (c := c) (r := r ++ M) (by rw [hd, hcons]) (by rw [← hcons, hnext]; exact e1)
        rw [← hcons, hnext, hr, e2] at hgo
        have hdrop : (o ++ M).drop o.length = M := by simp
        rw [hdrop] at hgo
        have hlen : (pre ++ (o ++ M)).length = pre.length + (o.length + M.length) := by simp
        have hol : 1 ≤ o.length := by rw [ho]; simp
        rcases hnx with ⟨rfl, rfl⟩ | ⟨hQn, rfl⟩
        · have hL0 : L.length = 0 := by have := allS_len hQ; simp at this; omega
          obtain rfl := List.eq_nil_of_length_eq_zero hL0
          obtain ⟨g2, rfl⟩ : ∃ g2, g = g2 + 1 := ⟨g - 1, by rw [hlen] at hf; omega⟩
          refine ⟨[{ (nextS x o).t with a := a + pre.length }], ?_, rfl, ?_⟩
          · rw [hgo]
            exact toksA_end (by simp)
          · intro i t' u hi hu
            cases i with
            | zero => cases hi; cases hu; exact ⟨e3, e4, e5, e6, e7⟩
            | succ i => simp at hi
        · obtain ⟨T, hT, hl, hs⟩ := back_toks x L Q [32] g (a + pre.length + o.length) (acc ++ [{ (nextS x o).t with a := a + pre.length }]) hQ rfl (by rw [hlen] at hf; omega)
          refine ⟨{ (nextS x o).t with a := a + pre.length } :: T, ?_, by rw [List.length_cons, List.length_cons, hl], ?_⟩
          · rw [hgo, hT]
            simp
          · intro i t' u hi hu
            cases i with
            | zero => cases hi; cases hu; exact ⟨e3, e4, e5, e6, e7⟩
            | succ i => exact hs i t' u hi hu

theorem back_all (x : Lx) (L : List Ti) (P : List Bs) (hP : allS (L.map (wrS x)) = some P) (hl : (joinB P).length ≤ 65536) :
    (toksS x (joinB P)).e = 0 ∧ (toksS x (joinB P)).l.length = L.length ∧ ∀ (i : Nat) (t : Ti) (u : Tk), L[i]? = some t → (toksS x (joinB P)).l[i]? = some u → sameT t u := by
  obtain ⟨T, h1, h2, h3⟩ := back_toks x L P [] ((joinB P).length + 1) 0 [] hP rfl (by simp)
  have h4 : toksS x (joinB P) = ⟨T, 0, 0⟩ := by
    unfold toksS
    rw [if_neg (by omega)]
    simpa using h1
  rw [h4]
  exact ⟨rfl, h2, h3⟩
end Go.Proofs.YtambpkkllgppdaaGreatDoor
