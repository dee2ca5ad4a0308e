/- What taking a text apart computes, plainly, and that two texts with a blank between have the tokens of both. No program in sight. Two texts with a blank between have the tokens of both. No program in sight. The walk of lex.run. The walks of strings.Builder's methods that write, at this program. The walk of strings.Builder's WriteString, at this program. -/
import Derived.Test.YtambpkkllgppdaaGreatDoorDeciMath
import Derived.Test.YtambpkkllgppdaaGreatDoorShelf
import Derived.Lib.SlTrimSet
import Derived.Shelf.Strings.SlTrimAscii
import Derived.Laws.AppendOwn
import Derived.Lib.AppendStr
namespace Go.Proofs.YtambpkkllgppdaaGreatDoor

abbrev Bs := List UInt8
def bs (l : Bs) : ByteArray := ⟨l.toArray⟩

/-- A token. -/
structure Tk where
  k : Int
  a : Nat
  t : Bs
  n : Int
  s : Int
  m : Int
def zeroT : Tk := ⟨0, 0, [], 0, 0, 0⟩

/-- What is taken as given: the number of a text of digits, the day of a text, whether a text's signs may stand. -/
structure Lx where
  P : Bs → Res
  D : Bs → Int × Int
  G : Bs → Bool

def figs : Bs := [48, 49, 50, 51, 52, 53, 54, 55, 56, 57]
def lets : Bs := [97, 98, 99, 100, 101, 102, 103, 104, 105, 106, 107, 108, 109, 110, 111, 112, 113, 114, 115, 116, 117, 118, 119, 120, 121, 122, 65, 66, 67, 68, 69, 70, 71, 72, 73, 74, 75, 76, 77, 78, 79, 80, 81, 82, 83, 84, 85, 86, 87, 88, 89, 90, 95]
def whites : Bs := [32, 9, 13, 10]
def signsL : List Bs := [[46, 46], [33, 61], [60, 61], [62, 61], [43], [45], [42], [47], [61], [60], [62], [40], [41], [91], [93], [44]]

/-- How many bytes a text begins with that are of some. -/
def runS (S l : Bs) : Nat := (l.takeWhile (S.contains ·)).length
def dotted (r : Bs) : Bool :=
  match r with
  | 46 :: c :: _ => figs.contains c
  | _ => false
def numLen (l : Bs) : Nat := if dotted (l.drop (runS figs l)) then runS figs l + 1 + runS figs (l.drop (runS figs l + 1)) else runS figs l

/-- What stands behind a quote, up to the next one, and how many bytes that takes. -/
def qS : Bs → Option (Bs × Nat)
  | [] => none
  | c :: r =>
    if c = 34 then some ([], 1)
    else if c = 92 then
      match r with
      | [] => none
      | d :: r2 => if d = 34 ∨ d = 92 then (qS r2).map fun p => (d :: p.1, p.2 + 2) else none
    else (qS r).map fun p => (c :: p.1, p.2 + 1)

structure Nx where
  t : Tk
  n : Nat
  e : Int
def bad : Nx := ⟨zeroT, 0, 5⟩
def strS (x : Lx) (r : Bs) : Nx :=
  match qS r with
  | none => bad
  | some p => if 256 < p.1.length ∨ x.G p.1 = false then bad else ⟨⟨2, 0, p.1, 0, 0, 0⟩, p.2 + 1, 0⟩
def quoD (r : Bs) : Option (Bs × Nat) := if r.head? = some 34 then qS r.tail else none
def dateS (x : Lx) (r : Bs) : Nx :=
  match quoD r with
  | none => bad
  | some p => if ¬ (x.D p.1).2 = 0 ∨ ¬ p.2 = 11 then bad else ⟨⟨3, 0, [], 0, 0, (x.D p.1).1⟩, 13, 0⟩
def nameS (l : Bs) : Nx := if 32 < runS (lets ++ figs) l then bad else ⟨⟨4, 0, l.take (runS (lets ++ figs) l), 0, 0, 0⟩, runS (lets ++ figs) l, 0⟩
def signS (l : Bs) : Nx :=
  match signsL.find? (fun g => g.isPrefixOf l) with
  | some g => ⟨⟨5, 0, g, 0, 0, 0⟩, g.length, 0⟩
  | none => bad
def numS (x : Lx) (l : Bs) : Nx := ⟨⟨1, 0, [], (x.P (l.take (numLen l))).n, (x.P (l.take (numLen l))).s, 0⟩, numLen l, (x.P (l.take (numLen l))).e⟩
/-- The token that a text begins with, and how many bytes it has. -/
def nextS (x : Lx) (l : Bs) : Nx :=
  match l with
  | [] => bad
  | c :: r =>
    if figs.contains c then numS x l
    else if c = 34 then strS x r
    else if c = 64 then dateS x r
    else if lets.contains c then nameS l
    else signS l

structure Tks where
  l : List Tk
  n : Nat
  e : Int
/-- The tokens behind those that are taken already. -/
def toksA (x : Lx) : Nat → Nat → Bs → List Tk → Tks
  | 0, _, _, acc => ⟨acc, 0, 0⟩
  | f + 1, a, l, acc =>
    match l.drop (runS whites l) with
    | [] => ⟨acc, 0, 0⟩
    | c :: r =>
      if (nextS x (c :: r)).e = 0 then toksA x f (a + runS whites l + (nextS x (c :: r)).n) ((c :: r).drop (nextS x (c :: r)).n) (acc ++ [{ (nextS x (c :: r)).t with a := a + runS whites l }])
      else ⟨[], a + runS whites l, (nextS x (c :: r)).e⟩
def toksS (x : Lx) (l : Bs) : Tks := if 65536 < l.length then ⟨[], 0, 10⟩ else toksA x (l.length + 1) 0 l []

theorem runS_le (S l : Bs) : runS S l ≤ l.length := (List.takeWhile_sublist _).length_le
theorem runS_nil (S : Bs) : runS S [] = 0 := rfl
theorem runS_cons (S : Bs) (c : UInt8) (l : Bs) : runS S (c :: l) = if S.contains c then runS S l + 1 else 0 := by
  unfold runS
  rw [List.takeWhile_cons]
  split <;> rfl
/-- A run that ends inside, or at a byte that is not of it, does not hang on what follows. -/
theorem runS_app (S : Bs) {b : UInt8} (hb : S.contains b = false) (l m : Bs) : runS S (l ++ b :: m) = runS S l := by
  induction l with
  | nil => rw [List.nil_append, runS_cons, hb]; rfl
  | cons c l ih => rw [List.cons_append, runS_cons, runS_cons, ih]
theorem runS_all (S : Bs) : ∀ (l m : Bs), runS S l = l.length → runS S (l ++ m) = l.length + runS S m
  | [], m, _ => by simp
  | c :: l, m, h => by
    rw [runS_cons] at h
    split at h
    · rename_i hc
      rw [List.cons_append, runS_cons, if_pos hc, runS_all S l m (by simpa using h)]
      simp only [List.length_cons]
      omega
    · simp at h
theorem runS_in {S : Bs} : ∀ {l : Bs}, runS S l < l.length → ∀ m, runS S (l ++ m) = runS S l
  | [], h, _ => by simp at h
  | c :: l, h, m => by
    rw [runS_cons] at h
    rw [List.cons_append, runS_cons, runS_cons]
    split at h
    · rw [runS_in (l := l) (by simpa using h) m]
    · rename_i hc
      rw [if_neg hc, if_neg hc]
theorem runS_head {S : Bs} {c : UInt8} {l : Bs} (h : S.contains c = true) : 1 ≤ runS S (c :: l) := by rw [runS_cons, if_pos h]; omega
theorem drop_app {l m : Bs} {k : Nat} (h : k ≤ l.length) : (l ++ m).drop k = l.drop k ++ m := by
  rw [List.drop_append, Nat.sub_eq_zero_of_le h]; rfl
theorem take_app {l m : Bs} {k : Nat} (h : k ≤ l.length) : (l ++ m).take k = l.take k := by
  rw [List.take_append, Nat.sub_eq_zero_of_le h, List.take_zero, List.append_nil]

theorem dotted_app (r m : Bs) : dotted (r ++ 32 :: m) = dotted r := by
  match r with
  | [] => rfl
  | [c] => by_cases hc : c = 46
           · subst hc; rfl
           · simp [dotted, hc]
  | c :: d :: r => by_cases hc : c = 46
                   · subst hc; rfl
                   · simp [dotted, hc]
theorem dotted_len {r : Bs} (h : dotted r = true) : 2 ≤ r.length := by
  match r, h with
  | c :: d :: r, _ => simp
  | [c], h => by_cases hc : c = 46 <;> simp [dotted] at h
theorem numLen_le (l : Bs) : numLen l ≤ l.length := by
  unfold numLen
  split
  · rename_i h
    have h2 := dotted_len h
    have h3 := runS_le figs (l.drop (runS figs l + 1))
    have h4 := runS_le figs l
    rw [List.length_drop] at h2 h3
    omega
  · exact runS_le _ _
theorem numLen_app (l m : Bs) : numLen (l ++ 32 :: m) = numLen l := by
  have h32 : figs.contains 32 = false := rfl
  unfold numLen
  rw [runS_app figs h32, drop_app (runS_le _ _), dotted_app]
  by_cases h : dotted (l.drop (runS figs l)) = true
  · have h2 := dotted_len h
    rw [List.length_drop] at h2
    rw [if_pos h, if_pos h, drop_app (by omega), runS_app figs h32]
  · rw [if_neg h, if_neg h]
theorem qS_cons (c : UInt8) (r : Bs) : qS (c :: r) = if c = 34 then some ([], 1) else if c = 92 then (match r with
      | [] => none
      | d :: r2 => if d = 34 ∨ d = 92 then (qS r2).map fun p => (d :: p.1, p.2 + 2) else none) else (qS r).map fun p => (c :: p.1, p.2 + 1) := by
  rw [qS.eq_def]
  rfl
theorem qS_app : ∀ (k : Nat) (l m : Bs) (p : Bs × Nat), l.length ≤ k → qS l = some p → qS (l ++ m) = some p ∧ p.2 ≤ l.length ∧ 1 ≤ p.2
  | _, [], _, _, _, h => by simp [qS] at h
  | 0, c :: r, _, _, hk, _ => by simp at hk
  | k + 1, c :: r, m, p, hk, h => by
    rw [List.cons_append, qS_cons]
    rw [qS_cons] at h
    rw [List.length_cons] at hk ⊢
    by_cases h1 : c = 34
    · rw [if_pos h1] at h ⊢
      cases h
      exact ⟨rfl, by simp, by simp⟩
    · rw [if_neg h1] at h ⊢
      by_cases h2 : c = 92
      · rw [if_pos h2] at h ⊢
        cases r with
        | nil => cases h
        | cons d r2 =>
          simp only [List.cons_append] at h ⊢
          rw [List.length_cons] at hk ⊢
          by_cases h3 : d = 34 ∨ d = 92
          · rw [if_pos h3] at h ⊢
            cases hq : qS r2 with
            | none => rw [hq] at h; cases h
            | some q =>
              rw [hq] at h
              obtain ⟨g1, g2, g3⟩ := qS_app k r2 m q (by omega) hq
              rw [g1]
              cases h
              refine ⟨rfl, ?_, ?_⟩ <;> simp only <;> omega
          · rw [if_neg h3] at h; cases h
      · rw [if_neg h2] at h ⊢
        cases hq : qS r with
        | none => rw [hq] at h; cases h
        | some q =>
          rw [hq] at h
          obtain ⟨g1, g2, g3⟩ := qS_app k r m q (by omega) hq
          rw [g1]
          cases h
          refine ⟨rfl, ?_, ?_⟩ <;> simp only <;> omega

theorem sign_app (l m : Bs) (h : l ≠ []) : signS (l ++ 32 :: m) = signS l := by
  have key : ∀ g ∈ signsL, g.isPrefixOf (l ++ 32 :: m) = g.isPrefixOf l := by
    intro g hg
    match l, h with
    | [c], _ =>
      simp only [signsL, List.mem_cons, List.not_mem_nil, or_false] at hg
      rcases hg with h | h | h | h | h | h | h | h | h | h | h | h | h | h | h | h <;> subst h <;> simp [List.isPrefixOf]
    | c :: d :: r, _ =>
      simp only [signsL, List.mem_cons, List.not_mem_nil, or_false] at hg
      rcases hg with h | h | h | h | h | h | h | h | h | h | h | h | h | h | h | h <;> subst h <;> simp [List.isPrefixOf]
  have : signsL.find? (fun g => g.isPrefixOf (l ++ 32 :: m)) = signsL.find? (fun g => g.isPrefixOf l) := by
    have gen : ∀ L : List Bs, (∀ g ∈ L, g.isPrefixOf (l ++ 32 :: m) = g.isPrefixOf l) → L.find? (fun g => g.isPrefixOf (l ++ 32 :: m)) = L.find? (fun g => g.isPrefixOf l) := by
      intro L
      induction L with
      | nil => intro _; rfl
      | cons g L ih =>
        intro hL
        rw [List.find?_cons, List.find?_cons, hL g (List.mem_cons_self ..), ih fun g hg => hL g (List.mem_cons_of_mem _ hg)]
    exact gen signsL key
  unfold signS
  rw [this]
theorem sign_bd {l : Bs} (h : (signS l).e = 0) : 1 ≤ (signS l).n ∧ (signS l).n ≤ l.length := by
  unfold signS at h ⊢
  cases hf : signsL.find? (fun g => g.isPrefixOf l) with
  | none => rw [hf] at h; cases h
  | some g =>
    have h1 := List.find?_some hf
    have h2 := List.mem_of_find?_eq_some hf
    refine ⟨?_, ?_⟩
    · show 1 ≤ g.length
      simp only [signsL, List.mem_cons, List.not_mem_nil, or_false] at h2
      rcases h2 with h | h | h | h | h | h | h | h | h | h | h | h | h | h | h | h <;> subst h <;> decide
    · show g.length ≤ l.length
      exact (List.isPrefixOf_iff_prefix.1 h1).length_le
theorem name_app (l m : Bs) : nameS (l ++ 32 :: m) = nameS l := by
  have h32 : (lets ++ figs).contains 32 = false := rfl
  unfold nameS
  rw [runS_app _ h32, take_app (runS_le _ _)]
theorem num_app (x : Lx) (l m : Bs) : numS x (l ++ 32 :: m) = numS x l := by
  unfold numS
  rw [numLen_app, take_app (numLen_le _)]

/-- A token that stands does not hang on what follows behind a blank. -/
theorem next_app (x : Lx) (l m : Bs) (h : (nextS x l).e = 0) : nextS x (l ++ 32 :: m) = nextS x l ∧ 1 ≤ (nextS x l).n ∧ (nextS x l).n ≤ l.length := by
  match l with
  | [] => cases h
  | c :: r =>
    rw [List.cons_append]
    unfold nextS at h ⊢
    simp only at h ⊢
    by_cases h1 : figs.contains c = true
    · rw [if_pos h1] at h ⊢
      rw [if_pos h1]
      refine ⟨num_app x (c :: r) m, ?_, numLen_le _⟩
      show 1 ≤ numLen (c :: r)
      unfold numLen
      have := runS_head (l := r) h1
      split <;> omega
    · rw [if_neg h1] at h ⊢
      rw [if_neg h1]
      by_cases h2 : c = 34
      · rw [if_pos h2] at h ⊢
        rw [if_pos h2]
        unfold strS at h ⊢
        cases hq : qS r with
        | none => rw [hq] at h; cases h
        | some p =>
          obtain ⟨g1, g2, g3⟩ := qS_app r.length r (32 :: m) p (Nat.le_refl _) hq
          rw [hq] at h
          rw [g1]
          refine ⟨rfl, ?_, ?_⟩
          · simp only at h ⊢
            split at h
            · cases h
            · rename_i hc; rw [if_neg hc]; simp only; omega
          · simp only at h ⊢
            split at h
            · cases h
            · rename_i hc; rw [if_neg hc]; simp only [List.length_cons]; omega
      · rw [if_neg h2] at h ⊢
        rw [if_neg h2]
        by_cases h3 : c = 64
        · rw [if_pos h3] at h ⊢
          rw [if_pos h3]
          unfold dateS at h ⊢
          cases hq : quoD r with
          | none => rw [hq] at h; cases h
          | some p =>
            have hq2 : quoD (r ++ 32 :: m) = some p ∧ p.2 + 1 ≤ r.length := by
              unfold quoD at hq ⊢
              match r with
              | [] => cases hq
              | d :: r2 =>
                by_cases hd : (d :: r2).head? = some 34
                · rw [if_pos hd] at hq
                  obtain ⟨g1, g2, g3⟩ := qS_app r2.length r2 (32 :: m) p (Nat.le_refl _) hq
                  refine ⟨?_, by rw [List.length_cons]; omega⟩
                  have hd2 : (d :: r2 ++ 32 :: m).head? = some 34 := hd
                  rw [if_pos hd2]
                  exact g1
                · rw [if_neg hd] at hq; cases hq
            rw [hq] at h
            rw [hq2.1]
            refine ⟨rfl, ?_, ?_⟩
            · simp only at h ⊢
              split at h
              · cases h
              · rename_i hc; rw [if_neg hc]; simp
            · simp only at h ⊢
              split at h
              · cases h
              · rename_i hc
                rw [if_neg hc]
                have h11 : p.2 = 11 := Classical.byContradiction fun hn => hc (.inr hn)
                have := hq2.2
                simp only [List.length_cons]
                omega
        · rw [if_neg h3] at h ⊢
          rw [if_neg h3]
          by_cases h4 : lets.contains c = true
          · rw [if_pos h4] at h ⊢
            rw [if_pos h4]
            refine ⟨name_app (c :: r) m, ?_, ?_⟩
            · have h5 : 1 ≤ runS (lets ++ figs) (c :: r) := runS_head (by
                rw [List.contains_iff_mem] at h4 ⊢
                exact List.mem_append_left _ h4)
              unfold nameS at h ⊢
              split at h
              · cases h
              · rename_i hc; rw [if_neg hc]; exact h5
            · have := runS_le (lets ++ figs) (c :: r)
              unfold nameS at h ⊢
              split at h
              · cases h
              · rename_i hc; rw [if_neg hc]; exact this
          · rw [if_neg h4] at h ⊢
            rw [if_neg h4]
            exact ⟨sign_app (c :: r) m (by simp), sign_bd h⟩
end Go.Proofs.YtambpkkllgppdaaGreatDoor

namespace Go.Proofs.YtambpkkllgppdaaGreatDoor

theorem next_bd (x : Lx) (l : Bs) (h : (nextS x l).e = 0) : 1 ≤ (nextS x l).n ∧ (nextS x l).n ≤ l.length := (next_app x l [] h).2
theorem toksA_end {x : Lx} {f a : Nat} {l : Bs} {acc : List Tk} (h : l.drop (runS whites l) = []) : toksA x (f + 1) a l acc = ⟨acc, 0, 0⟩ := by rw [toksA, h]
theorem toksA_go {x : Lx} {f a : Nat} {l : Bs} {acc : List Tk} {c : UInt8} {r : Bs} (h : l.drop (runS whites l) = c :: r) (he : (nextS x (c :: r)).e = 0) :
    toksA x (f + 1) a l acc = toksA x f (a + runS whites l + (nextS x (c :: r)).n) ((c :: r).drop (nextS x (c :: r)).n) (acc ++ [{ (nextS x (c :: r)).t with a := a + runS whites l }]) := by
  rw [toksA, h]
  simp only
  rw [if_pos he]
theorem toksA_bad {x : Lx} {f a : Nat} {l : Bs} {acc : List Tk} {c : UInt8} {r : Bs} (h : l.drop (runS whites l) = c :: r) (he : ¬ (nextS x (c :: r)).e = 0) :
    toksA x (f + 1) a l acc = ⟨[], a + runS whites l, (nextS x (c :: r)).e⟩ := by
  rw [toksA, h]
  simp only
  rw [if_neg he]
theorem len_drop {l : Bs} {k : Nat} {c : UInt8} {r : Bs} (h : l.drop k = c :: r) : k + (c :: r).length = l.length ∧ k < l.length := by
  have := congrArg List.length h
  rw [List.length_drop, List.length_cons] at this
  rw [List.length_cons]
  omega

theorem toks_fuel (x : Lx) : ∀ (f1 f2 a : Nat) (l : Bs) (acc : List Tk), l.length < f1 → l.length < f2 → toksA x f1 a l acc = toksA x f2 a l acc
  | 0, _, _, _, _, h, _ => by omega
  | _ + 1, 0, _, _, _, _, h => by omega
  | f1 + 1, f2 + 1, a, l, acc, h1, h2 => by
    cases hd : l.drop (runS whites l) with
    | nil => rw [toksA_end hd, toksA_end hd]
    | cons c r =>
      by_cases he : (nextS x (c :: r)).e = 0
      · have hb := next_bd x _ he
        have hl := len_drop hd
        rw [toksA_go hd he, toksA_go hd he]
        have : ((c :: r).drop (nextS x (c :: r)).n).length + (nextS x (c :: r)).n = (c :: r).length := by rw [List.length_drop]; omega
        exact toks_fuel x f1 f2 _ _ _ (by omega) (by omega)
      · rw [toksA_bad hd he, toksA_bad hd he]
theorem toks_parts (x : Lx) (m : Bs) : ∀ (f a : Nat) (l : Bs) (acc : List Tk), l.length < f → (toksA x f a l acc).e = 0 → ∀ f2, l.length + m.length + 1 < f2 → toksA x f2 a (l ++ 32 :: m) acc = toksA x f2 (a + l.length + 1) m (toksA x f a l acc).l
  | 0, _, _, _, h, _, _, _ => by omega
  | f + 1, a, l, acc, h, hT, 0, h2 => by omega
  | f + 1, a, l, acc, h, hT, g + 1, h2 => by
    have hw : whites.contains 32 = true := rfl
    cases hd : l.drop (runS whites l) with
    | nil =>
      have hk : runS whites l = l.length := by
        have h1 := runS_le whites l
        have h3 := congrArg List.length hd
        rw [List.length_drop, List.length_nil] at h3
        omega
      rw [toksA_end hd]
      have hr : runS whites (l ++ 32 :: m) = l.length + 1 + runS whites m := by
        rw [runS_all _ _ _ hk, runS_cons, if_pos hw]
        omega
      have hdr : (l ++ 32 :: m).drop (runS whites (l ++ 32 :: m)) = m.drop (runS whites m) := by
        rw [hr, List.drop_append, List.drop_of_length_le (by omega), List.nil_append, show l.length + 1 + runS whites m - l.length = runS whites m + 1 by omega]
        rfl
      cases hm : m.drop (runS whites m) with
      | nil => rw [toksA_end (by rw [hdr, hm]), toksA_end hm]
      | cons c r =>
        by_cases he : (nextS x (c :: r)).e = 0
        · rw [toksA_go (hdr.trans hm) he, toksA_go hm he, hr, show a + (l.length + 1 + runS whites m) = a + l.length + 1 + runS whites m by omega]
        · rw [toksA_bad (hdr.trans hm) he, toksA_bad hm he, hr, show a + (l.length + 1 + runS whites m) = a + l.length + 1 + runS whites m by omega]
    | cons c r =>
      have hl := len_drop hd
      by_cases he : (nextS x (c :: r)).e = 0
      · have hb := next_bd x _ he
        have ha := (next_app x (c :: r) m he).1
        rw [toksA_go hd he] at hT ⊢
        have hr : runS whites (l ++ 32 :: m) = runS whites l := runS_in hl.2 _
        have hdr : (l ++ 32 :: m).drop (runS whites (l ++ 32 :: m)) = c :: (r ++ 32 :: m) := by rw [hr, drop_app (by omega), hd]; rfl
        have ha2 : nextS x (c :: (r ++ 32 :: m)) = nextS x (c :: r) := ha
        rw [toksA_go hdr (by rw [ha2]; exact he), ha2, hr]
        have hcut : (c :: (r ++ 32 :: m)).drop (nextS x (c :: r)).n = (c :: r).drop (nextS x (c :: r)).n ++ 32 :: m := drop_app (l := c :: r) hb.2
        have hlen : ((c :: r).drop (nextS x (c :: r)).n).length + (nextS x (c :: r)).n = (c :: r).length := by rw [List.length_drop]; omega
        rw [hcut, toks_parts x m f _ _ _ (by omega) hT g (by omega)]
        rw [show a + runS whites l + (nextS x (c :: r)).n + ((c :: r).drop (nextS x (c :: r)).n).length + 1 = a + l.length + 1 by omega]
        exact toks_fuel x _ _ _ _ _ (by omega) (by omega)
      · rw [toksA_bad hd he] at hT
        exact absurd hT he

def shiftT (d : Nat) (t : Tk) : Tk := { t with a := t.a + d }
theorem shift_shift (c d : Nat) (L : List Tk) : (L.map (shiftT c)).map (shiftT d) = L.map (shiftT (c + d)) := by
  rw [List.map_map]
  congr 1
  funext t
  simp [shiftT, Nat.add_assoc]
theorem toks_shift (x : Lx) : ∀ (f a : Nat) (l : Bs) (acc : List Tk), toksA x f a l acc = if (toksA x f 0 l []).e = 0 then ⟨acc ++ (toksA x f 0 l []).l.map (shiftT a), 0, 0⟩ else ⟨[], (toksA x f 0 l []).n + a, (toksA x f 0 l []).e⟩
  | 0, a, l, acc => by simp [toksA]
  | f + 1, a, l, acc => by
    cases hd : l.drop (runS whites l) with
    | nil => rw [toksA_end hd, toksA_end hd]; simp
    | cons c r =>
      by_cases he : (nextS x (c :: r)).e = 0
      · rw [toksA_go hd he, toksA_go hd he]
        rw [toks_shift x f (a + runS whites l + (nextS x (c :: r)).n), toks_shift x f (0 + runS whites l + (nextS x (c :: r)).n)]
        by_cases h0 : (toksA x f 0 ((c :: r).drop (nextS x (c :: r)).n) []).e = 0
        · rw [if_pos h0, if_pos h0, if_pos rfl]
          simp only [List.nil_append, List.map_append, List.map_cons, List.map_nil, List.append_assoc]
          have e2 : shiftT a { (nextS x (c :: r)).t with a := 0 + runS whites l } = { (nextS x (c :: r)).t with a := a + runS whites l } := by simp [shiftT, Nat.add_comm]
          rw [shift_shift, e2, show 0 + runS whites l + (nextS x (c :: r)).n + a = a + runS whites l + (nextS x (c :: r)).n by omega]
        · rw [if_neg h0, if_neg h0, if_neg h0]
          simp only
          congr 1
          omega
      · rw [toksA_bad hd he, toksA_bad hd he, if_neg he]
        simp only
        congr 1
        omega
theorem toksS_parts (x : Lx) (a b : Bs) (h : (toksS x a).e = 0) (hlen : a.length + b.length < 65536) :
    toksS x (a ++ 32 :: b) = if (toksS x b).e = 0 then ⟨(toksS x a).l ++ (toksS x b).l.map (shiftT (a.length + 1)), 0, 0⟩ else ⟨[], (toksS x b).n + (a.length + 1), (toksS x b).e⟩ := by
  have hl : (a ++ 32 :: b).length = a.length + b.length + 1 := by rw [List.length_append, List.length_cons]; omega
  have ea : toksS x a = toksA x (a.length + 1) 0 a [] := by unfold toksS; rw [if_neg (by omega)]
  have eb : toksS x b = toksA x (b.length + 1) 0 b [] := by unfold toksS; rw [if_neg (by omega)]
  have ec : toksS x (a ++ 32 :: b) = toksA x (a.length + b.length + 1 + 1) 0 (a ++ 32 :: b) [] := by unfold toksS; rw [hl, if_neg (by omega)]
  rw [ea] at h
  rw [ea, eb, ec]
  rw [toks_parts x b (a.length + 1) 0 a [] (by omega) h _ (by omega), Nat.zero_add, toks_shift]
  rw [toks_fuel x (a.length + b.length + 1 + 1) (b.length + 1) 0 b [] (by omega) (by omega)]
end Go.Proofs.YtambpkkllgppdaaGreatDoor

namespace Go.Proofs.YtambpkkllgppdaaGreatDoor
open Go.RowKit

theorem trim_left (s cs : ByteArray) (w : World) (hcs : cs.size < 4294967281) (h : cs.data.toList.all (fun b => decide (b.toNat < 128)) = true) :
    Calls Tryz.prog 29 #[.string s, .string cs] w fun e w' => e = .returned (.string (bs (s.data.toList.dropWhile (cs.data.toList.contains ·)))) ∧ Below w.heap.size w w' :=
  Any.strings_TrimLeft_laid Tryz.lays161 (by kernel_rfl) s cs w hcs (ascii_of_all h)

theorem bs_size (l : Bs) : (bs l).size = l.length := by simp [bs, ByteArray.size]
theorem size_list (s : ByteArray) : s.data.toList.length = s.size := by simp
theorem run_any (s cs : ByteArray) (k : Nat) (hs : s.size ≤ 9223372036854775807) (hcs : cs.size < 4294967281) (h : cs.data.toList.all (fun b => decide (b.toNat < 128)) = true) (hk : runS cs.data.toList s.data.toList = k) (w : World) :
    Calls Tryz.prog 16 #[.string s, .string cs] w fun e w' => e = .returned (.int .i64 (k : Int)) ∧ Below w.heap.size w w' := by
  have HT := Lib.hid (fun W => trim_left s cs W hcs h)
  have hl : (s.data.toList.dropWhile (cs.data.toList.contains ·)).length + k = s.size := by
    have h1 := congrArg List.length (List.takeWhile_append_dropWhile (p := (cs.data.toList.contains ·)) (l := s.data.toList))
    rw [List.length_append, size_list] at h1
    unfold runS at hk
    omega
  have h2 := bs_size (s.data.toList.dropWhile (cs.data.toList.contains ·))
  generalize s.data.toList.dropWhile (cs.data.toList.contains ·) = D at *
  obtain ⟨B, hB⟩ : ∃ B, bs D = B := ⟨_, rfl⟩
  rw [hB] at HT h2
  have k1 : IntKind.i64.wrap ((s.size : Int) - (B.size : Int)) = (k : Int) := by rw [show (s.size : Int) - (B.size : Int) = (k : Int) by omega]; exact IntWalk.i64_in _ (by omega)
  clear hk hB hl h2
  go_enter Tryz.func16, Tryz.ntmps16
  go_wp2_with fail
  refine (HT.out _).mono ?_
  rintro _ w1 ⟨rfl, hb⟩
  go_wp2_with fail
  go_returns
  exact ⟨rfl, by (repeat' (first | (with_reducible exact Below.refl _ _) | (with_reducible assumption) | (with_reducible refine balloc ?_ _) | (with_reducible refine Below.drew ?_) | (with_reducible refine bset ?_ ?_ _) | (with_reducible refine bstep ?_ (by with_reducible assumption)) | (with_reducible refine bturn ?_ (by with_reducible assumption) ?_) | go_size))⟩
end Go.Proofs.YtambpkkllgppdaaGreatDoor

namespace Go.Proofs.YtambpkkllgppdaaGreatDoor
open Go.RowKit Go.Shelf

theorem sizeB : (Tryz.prog.info? 49).map (·.size) = some 2 := by kernel_rfl
theorem liesB : liesAt Tryz.prog Tryz.prog.depth 49 (2 / Tryz.prog.cellsOf 49) 0 49 1 = true := by kernel_rfl
theorem infoU8 : (Tryz.prog.info? 5).map (fun i => (i.zero, i.size, i.bytes)) = some (some (.int .u8 0), 1, 1) := by kernel_rfl

abbrev IsB (B b : Nat) (l : Bs) (w : World) : Prop := Lib.IsBuilder 49 5 B b (Lib.byteCells l) w

set_option maxHeartbeats 1000000 in
set_option maxRecDepth 100000 in
theorem check_used (b : Nat) (w : World) (h0 : w.cell? ⟨b, 0, none⟩ = some (.pointer (some ⟨b, 0, none⟩))) :
    Calls Tryz.prog 48 #[.pointer (some ⟨b, 0, none⟩)] w fun e w' => e = .returned (.tuple #[]) ∧ w' = w := by
  obtain ⟨j, hj, _⟩ := Option.map_eq_some_iff.1 sizeB
  go_enter Tryz.func48, Tryz.ntmps48
  go_wp2
  rw [Lib.run_neq_ptr_same w _ Tryz.underlying46 hj]
  go_wp2
  go_end0
  exact ⟨rfl, rfl⟩

set_option maxHeartbeats 1000000 in
set_option maxRecDepth 100000 in
theorem check_fresh (b : Nat) (w : World) (h0 : w.cell? ⟨b, 0, none⟩ = some (.pointer none)) (hsh : w.shape? b = some (49, 2)) (hfz : w.frozen? ⟨b, 0, none⟩ = false) :
    Calls Tryz.prog 48 #[.pointer (some ⟨b, 0, none⟩)] w fun e w' => e = .returned (.tuple #[]) ∧ w' = w.setCell ⟨b, 0, none⟩ (.pointer (some ⟨b, 0, none⟩)) := by
  obtain ⟨j, hj, hjs⟩ := Option.map_eq_some_iff.1 sizeB
  go_enter Tryz.func48, Tryz.ntmps48
  go_wp2
  rw [Lib.run_to_unsafe w ⟨b, 0, none⟩ Tryz.underlying46 Tryz.underlying114 hj (by rw [hjs]; decide) hsh (Nat.zero_lt_succ 1)]
  simp only [Result.andThen]
  rw [Oper.upon_value]
  go_wp2
  rw [run_callFunc_extern Tryz.func77 (by kernel_rfl) (by kernel_rfl) (by kernel_rfl) (e := Extern.AbiNoEscape.same) (by kernel_rfl)]
  rw [Lib.run_noEscape]
  simp only [Result.andThen]
  rw [Oper.upon_value]
  go_wp2
  rw [Lib.run_from_unsafe w ⟨b, 0, none⟩ Tryz.underlying114 Tryz.underlying46 hj hsh liesB]
  simp only [Result.andThen]
  rw [Oper.upon_value]
  go_wp2
  go_end0
  exact ⟨rfl, rfl⟩

theorem check_any (B b : Nat) (l : List Value) (w : World) (h : Lib.IsBuilder 49 5 B b l w) :
    Calls Tryz.prog 48 #[.pointer (some ⟨b, 0, none⟩)] w fun e w' => e = .returned (.tuple #[]) ∧ Lib.BuilderAt 49 5 B b (.pointer (some ⟨b, 0, none⟩)) l w' ∧ Below B w w' := by
  rcases h with h | h
  · refine (check_fresh b w h.cell0 h.shape h.frozen0).mono ?_
    rintro e w' ⟨rfl, rfl⟩
    exact ⟨rfl, h.used _, (Below.refl B w).setCell (p := ⟨b, 0, none⟩) h.1 _⟩
  · refine (check_used b w h.cell0).mono ?_
    rintro e w' ⟨rfl, rfl⟩
    exact ⟨rfl, h, Below.refl B _⟩

set_option maxHeartbeats 2000000 in
set_option maxRecDepth 100000 in
theorem byte_any (B b : Nat) (l : List Value) (c : Int) (w : World) (h : Lib.IsBuilder 49 5 B b l w) (hlen : l.length + 1 ≤ 1000000000) (hBw : B ≤ w.heap.size) :
    Calls Tryz.prog 59 #[.pointer (some ⟨b, 0, none⟩), .int .u8 c] w fun e w' => e = .returned .nilIface ∧ Lib.BuilderAt 49 5 B b (.pointer (some ⟨b, 0, none⟩)) (l ++ [.int .u8 c]) w' ∧ Below B w w' := by
  obtain ⟨i0, hi, hz0, hz1, hz2⟩ := info_parts infoU8
  go_enter Tryz.func59, Tryz.ntmps59
  go_wp2_with (go_at_call 48; refine (check_any B b l _ h).mono ?_)
  rintro e w1 ⟨rfl, h1, hb1⟩
  obtain ⟨hB, v, hbk, hown, hne⟩ := h1
  have c0 : w1.cell? ⟨b, 0, none⟩ = some (.pointer (some ⟨b, 0, none⟩)) := by rw [Lib.cell_of_heap hbk]; rfl
  have c1 : w1.cell? ⟨b, 1, none⟩ = some v := by rw [Lib.cell_of_heap hbk]; rfl
  go_wp2_with (at_builtin; refine wpList_append_own _ rfl _ _ 47 rfl B 5 i0 (.int .u8 0) 1 1 Tryz.underlying47 hi hz0 hz1 hz2 rfl (by decide) _ _ _ rfl (hown.alloc _) ⟨w1.heap.size, 0, none⟩ 1 1 [.int .u8 c] rfl rfl ?c1 ?c2 ?c3 ?c4 ?c5 ?_)
  case c1 =>
    intro j u hj
    match j, hj with
    | 0, hj => simp at hj; subst hj; simp [Addr.add]
  case c2 => intro u hu; simp at hu; subst hu; rfl
  case c3 => unfold maxLen; omega
  case c4 => omega
  case c5 => have := hb1.size; simp; omega
  intro v' w2 hown' hgrow _
  have hlt : b < w1.heap.size := by
    rcases Nat.lt_or_ge b w1.heap.size with h' | h'
    · exact h'
    · simp [Array.getElem?_eq_none h'] at hbk
  have hb2 : w2.heap[b]? = some (.cells #[.pointer (some ⟨b, 0, none⟩), v] 49 (0, 0)) := by
    rw [hgrow.block b (by simp; omega) (fun e => hne e.symm), Lib.alloc_old w1 _ b hlt]
    exact hbk
  have d0 : w2.cell? ⟨b, 0, none⟩ = some (.pointer (some ⟨b, 0, none⟩)) := by rw [Lib.cell_of_heap hb2]; rfl
  have d1 : w2.cell? ⟨b, 1, none⟩ = some v := by rw [Lib.cell_of_heap hb2]; rfl
  have f1 : w2.frozen? ⟨b, 1, none⟩ = false := Lib.frozen_of_heap hb2 1
  obtain ⟨g, cap, rfl⟩ : ∃ g cap, v' = .slice (some ⟨g, 0, none⟩) (l.length + 1) cap := by
    rcases hown'.2 with ⟨_, h0⟩ | ⟨g, cap, cur, hv, _⟩
    · omega
    · exact ⟨g, cap, hv⟩
  go_wp2
  go_ret
  refine ⟨rfl, ?_, ?_⟩
  · exact Lib.BuilderAt.put (T := 49) (e := 5) hB hb2 (bs' := l ++ [.int .u8 c]) (by simpa using hown') (by decide)
  · exact ((hb1.alloc (by have := hb1.size; omega) _).grown hgrow (by have := hb1.size; simp; omega) (fun k hk => (hown.lt k hk).1)).setCell (p := ⟨b, 1, none⟩) hB _
end Go.Proofs.YtambpkkllgppdaaGreatDoor

namespace Go.Proofs.YtambpkkllgppdaaGreatDoor
open Go.RowKit Go.Shelf

set_option maxHeartbeats 2000000 in
set_option maxRecDepth 100000 in
theorem str_any (B b : Nat) (l : List Value) (s : ByteArray) (w : World) (h : Lib.IsBuilder 49 5 B b l w) (hlen : l.length + s.size ≤ 1000000000) (hBw : B ≤ w.heap.size) :
    Calls Tryz.prog 26 #[.pointer (some ⟨b, 0, none⟩), .string s] w fun e w' => e = .returned (.tuple #[.int .i64 s.size, .nilIface]) ∧ Lib.BuilderAt 49 5 B b (.pointer (some ⟨b, 0, none⟩)) (l ++ Lib.strCells s) w' ∧ Below B w w' := by
  obtain ⟨i0, hi, hz0, hz1, hz2⟩ := info_parts infoU8
  go_enter Tryz.func26, Tryz.ntmps26
  go_wp2_with (go_at_call 48; refine (check_any B b l _ h).mono ?_)
  rintro e w1 ⟨rfl, h1, hb1⟩
  obtain ⟨hB, v, hbk, hown, hne⟩ := h1
  have c0 : w1.cell? ⟨b, 0, none⟩ = some (.pointer (some ⟨b, 0, none⟩)) := by rw [Lib.cell_of_heap hbk]; rfl
  have c1 : w1.cell? ⟨b, 1, none⟩ = some v := by rw [Lib.cell_of_heap hbk]; rfl
  go_wp2_with (at_builtin; refine Lib.wpList_append_own_string _ rfl _ _ 47 9 rfl B 5 i0 Tryz.underlying47 Tryz.underlying9 hi hz0 hz1 hz2 _ _ _ rfl hown s rfl ?c3 ?c4 ?c5 ?_)
  case c3 => unfold maxLen; omega
  case c4 => omega
  case c5 => have := hb1.size; omega
  intro v' w2 hown' hgrow _
  have hlt : b < w1.heap.size := (Array.getElem?_eq_some_iff.1 hbk).1
  have hb2 : w2.heap[b]? = some (.cells #[.pointer (some ⟨b, 0, none⟩), v] 49 (0, 0)) := by
    rw [hgrow.block b hlt (fun e => hne e.symm)]
    exact hbk
  have d0 : w2.cell? ⟨b, 0, none⟩ = some (.pointer (some ⟨b, 0, none⟩)) := by rw [Lib.cell_of_heap hb2]; rfl
  have d1 : w2.cell? ⟨b, 1, none⟩ = some v := by rw [Lib.cell_of_heap hb2]; rfl
  have f1 : w2.frozen? ⟨b, 1, none⟩ = false := Lib.frozen_of_heap hb2 1
  obtain ⟨ao, n', cap, rfl⟩ : ∃ ao n' cap, v' = .slice ao n' cap := by
    rcases hown'.2 with ⟨hv, _⟩ | ⟨g, cap, cur, hv, _⟩
    · exact ⟨_, _, _, hv⟩
    · exact ⟨_, _, _, hv⟩
  go_wp2
  go_ret2
  refine ⟨rfl, ?_, ?_⟩
  · exact Lib.BuilderAt.put (T := 49) (e := 5) hB hb2 (bs' := l ++ Lib.strCells s) (by simpa [Lib.strCells_length] using hown') (by decide)
  · exact (hb1.grown hgrow (by have := hb1.size; omega) (fun k hk => (hown.lt k hk).1)).setCell (p := ⟨b, 1, none⟩) hB _
theorem str_cells (o : Bs) (s : ByteArray) : Lib.byteCells o ++ Lib.strCells s = Lib.byteCells (o ++ s.data.toList) := by
  simp [Lib.byteCells, Lib.strCells]
end Go.Proofs.YtambpkkllgppdaaGreatDoor
