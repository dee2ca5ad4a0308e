/- What taking a text apart computes, plainly, and that two texts with a blank between have the tokens of both. No program in sight. Two texts with a blank between have the tokens of both. No program in sight. The walk of lex.run. The walks of strings.Builder's methods that write, at this program. The walk of strings.Builder's WriteString, at this program. What going through tokens computes, plainly. No program in sight. The walk of lex.quoted. The walks of package chars: sign, Bad, Good. The walk of lex.number. The walk of lex.next, case by case. The walks of lex.signs, and of lex.next at a sign. The walk of lex.next at every text. The walk of lex.Tokens. -/
import Derived.Lib.SlTrimSet
import Derived.Shelf.Strings.SlTrimAscii
import Derived.Laws.AppendOwn
import Derived.Lib.AppendStr
import Derived.Test.YtkkeplmaphcblaaGreatDoorJ1
import Derived.Test.YtkkeplmaphcblaaGreatDoorJ2
import Derived.Deep.LoopGhost
import Derived.Lib.LaidU8T
import Derived.Laws.RangeAny
import Derived.Lib.OthersKept
import Derived.Lib.ItoaWalk
import Derived.Lib.AppendIntMem
import Derived.Lib.ItoaMem
import Derived.OwnWalk
namespace Go.Proofs.YtkkeplmaphcblaaGreatDoor

abbrev Bs := List UInt8
def bs (l : Bs) : ByteArray := ⟨l.toArray⟩

/-- A token. -/
structure Tk where
  k : Int
  a : Nat
  t : Bs
  n : Int
  s : Int
  m : Int
def zeroT : Tk := ⟨0, 0, [], 0, 0, 0⟩

/-- What is taken as given: the number of a text of digits, the day of a text, whether a text's signs may stand. -/
structure Lx where
  P : Bs → Res
  D : Bs → Int × Int
  G : Bs → Bool

def figs : Bs := [48, 49, 50, 51, 52, 53, 54, 55, 56, 57]
def lets : Bs := [97, 98, 99, 100, 101, 102, 103, 104, 105, 106, 107, 108, 109, 110, 111, 112, 113, 114, 115, 116, 117, 118, 119, 120, 121, 122, 65, 66, 67, 68, 69, 70, 71, 72, 73, 74, 75, 76, 77, 78, 79, 80, 81, 82, 83, 84, 85, 86, 87, 88, 89, 90, 95]
def whites : Bs := [32, 9, 13, 10]
def signsL : List Bs := [[46, 46], [33, 61], [60, 61], [62, 61], [43], [45], [42], [47], [61], [60], [62], [40], [41], [91], [93], [44]]

/-- How many bytes a text begins with that are of some. -/
def runS (S l : Bs) : Nat := (l.takeWhile (S.contains ·)).length
def dotted (r : Bs) : Bool :=
  match r with
  | 46 :: c :: _ => figs.contains c
  | _ => false
def numLen (l : Bs) : Nat := if dotted (l.drop (runS figs l)) then runS figs l + 1 + runS figs (l.drop (runS figs l + 1)) else runS figs l

/-- What stands behind a quote, up to the next one, and how many bytes that takes. -/
def qS : Bs → Option (Bs × Nat)
  | [] => none
  | c :: r =>
    if c = 34 then some ([], 1)
    else if c = 92 then
      match r with
      | [] => none
      | d :: r2 => if d = 34 ∨ d = 92 then (qS r2).map fun p => (d :: p.1, p.2 + 2) else none
    else (qS r).map fun p => (c :: p.1, p.2 + 1)

structure Nx where
  t : Tk
  n : Nat
  e : Int
def bad : Nx := ⟨zeroT, 0, 5⟩
def strS (x : Lx) (r : Bs) : Nx :=
  match qS r with
  | none => bad
  | some p => if 256 < p.1.length ∨ x.G p.1 = false then bad else ⟨⟨2, 0, p.1, 0, 0, 0⟩, p.2 + 1, 0⟩
def quoD (r : Bs) : Option (Bs × Nat) := if r.head? = some 34 then qS r.tail else none
def dateS (x : Lx) (r : Bs) : Nx :=
  match quoD r with
  | none => bad
  | some p => if ¬ (x.D p.1).2 = 0 ∨ ¬ p.2 = 11 then bad else ⟨⟨3, 0, [], 0, 0, (x.D p.1).1⟩, 13, 0⟩
def nameS (l : Bs) : Nx := if 32 < runS (lets ++ figs) l then bad else ⟨⟨4, 0, l.take (runS (lets ++ figs) l), 0, 0, 0⟩, runS (lets ++ figs) l, 0⟩
def signS (l : Bs) : Nx :=
  match signsL.find? (fun g => g.isPrefixOf l) with
  | some g => ⟨⟨5, 0, g, 0, 0, 0⟩, g.length, 0⟩
  | none => bad
def numS (x : Lx) (l : Bs) : Nx := ⟨⟨1, 0, [], (x.P (l.take (numLen l))).n, (x.P (l.take (numLen l))).s, 0⟩, numLen l, (x.P (l.take (numLen l))).e⟩
/-- The token that a text begins with, and how many bytes it has. -/
def nextS (x : Lx) (l : Bs) : Nx :=
  match l with
  | [] => bad
  | c :: r =>
    if figs.contains c then numS x l
    else if c = 34 then strS x r
    else if c = 64 then dateS x r
    else if lets.contains c then nameS l
    else signS l

structure Tks where
  l : List Tk
  n : Nat
  e : Int
/-- The tokens behind those that are taken already. -/
def toksA (x : Lx) : Nat → Nat → Bs → List Tk → Tks
  | 0, _, _, acc => ⟨acc, 0, 0⟩
  | f + 1, a, l, acc =>
    match l.drop (runS whites l) with
    | [] => ⟨acc, 0, 0⟩
    | c :: r =>
      if (nextS x (c :: r)).e = 0 then toksA x f (a + runS whites l + (nextS x (c :: r)).n) ((c :: r).drop (nextS x (c :: r)).n) (acc ++ [{ (nextS x (c :: r)).t with a := a + runS whites l }])
      else ⟨[], a + runS whites l, (nextS x (c :: r)).e⟩
def toksS (x : Lx) (l : Bs) : Tks := if 65536 < l.length then ⟨[], 0, 10⟩ else toksA x (l.length + 1) 0 l []

theorem runS_le (S l : Bs) : runS S l ≤ l.length := (List.takeWhile_sublist _).length_le
theorem runS_nil (S : Bs) : runS S [] = 0 := rfl
theorem runS_cons (S : Bs) (c : UInt8) (l : Bs) : runS S (c :: l) = if S.contains c then runS S l + 1 else 0 := by
  unfold runS
  rw [List.takeWhile_cons]
  split <;> rfl
/-- A run that ends inside, or at a byte that is not of it, does not hang on what follows. -/
theorem runS_app (S : Bs) {b : UInt8} (hb : S.contains b = false) (l m : Bs) : runS S (l ++ b :: m) = runS S l := by
  induction l with
  | nil => rw [List.nil_append, runS_cons, hb]; rfl
  | cons c l ih => rw [List.cons_append, runS_cons, runS_cons, ih]
theorem runS_all (S : Bs) : ∀ (l m : Bs), runS S l = l.length → runS S (l ++ m) = l.length + runS S m
  | [], m, _ => by simp
  | c :: l, m, h => by
    rw [runS_cons] at h
    split at h
    · rename_i hc
      rw [List.cons_append, runS_cons, if_pos hc, runS_all S l m (by simpa using h)]
      simp only [List.length_cons]
      omega
    · simp at h
theorem runS_in {S : Bs} : ∀ {l : Bs}, runS S l < l.length → ∀ m, runS S (l ++ m) = runS S l
  | [], h, _ => by simp at h
  | c :: l, h, m => by
    rw [runS_cons] at h
    rw [List.cons_append, runS_cons, runS_cons]
    split at h
    · rw [runS_in (l := l) (by simpa using h) m]
    · rename_i hc
      rw [if_neg hc, if_neg hc]
theorem runS_head {S : Bs} {c : UInt8} {l : Bs} (h : S.contains c = true) : 1 ≤ runS S (c :: l) := by rw [runS_cons, if_pos h]; omega
theorem drop_app {l m : Bs} {k : Nat} (h : k ≤ l.length) : (l ++ m).drop k = l.drop k ++ m := by
  rw [List.drop_append, Nat.sub_eq_zero_of_le h]; rfl
theorem take_app {l m : Bs} {k : Nat} (h : k ≤ l.length) : (l ++ m).take k = l.take k := by
  rw [List.take_append, Nat.sub_eq_zero_of_le h, List.take_zero, List.append_nil]

theorem dotted_app (r m : Bs) : dotted (r ++ 32 :: m) = dotted r := by
  match r with
  | [] => rfl
  | [c] => by_cases hc : c = 46
           · subst hc; rfl
           · simp [dotted, hc]
  | c :: d :: r => by_cases hc : c = 46
                   · subst hc; rfl
                   · simp [dotted, hc]
theorem dotted_len {r : Bs} (h : dotted r = true) : 2 ≤ r.length := by
  match r, h with
  | c :: d :: r, _ => simp
  | [c], h => by_cases hc : c = 46 <;> simp [dotted] at h
theorem numLen_le (l : Bs) : numLen l ≤ l.length := by
  unfold numLen
  split
  · rename_i h
    have h2 := dotted_len h
    have h3 := runS_le figs (l.drop (runS figs l + 1))
    have h4 := runS_le figs l
    rw [List.length_drop] at h2 h3
    omega
  · exact runS_le _ _
theorem numLen_app (l m : Bs) : numLen (l ++ 32 :: m) = numLen l := by
  have h32 : figs.contains 32 = false := rfl
  unfold numLen
  rw [runS_app figs h32, drop_app (runS_le _ _), dotted_app]
  by_cases h : dotted (l.drop (runS figs l)) = true
  · have h2 := dotted_len h
    rw [List.length_drop] at h2
    rw [if_pos h, if_pos h, drop_app (by omega), runS_app figs h32]
  · rw [if_neg h, if_neg h]
theorem qS_cons (c : UInt8) (r : Bs) : qS (c :: r) = if c = 34 then some ([], 1) else if c = 92 then (match r with
      | [] => none
      | d :: r2 => if d = 34 ∨ d = 92 then (qS r2).map fun p => (d :: p.1, p.2 + 2) else none) else (qS r).map fun p => (c :: p.1, p.2 + 1) := by
  rw [qS.eq_def]
  rfl
theorem qS_app : ∀ (k : Nat) (l m : Bs) (p : Bs × Nat), l.length ≤ k → qS l = some p → qS (l ++ m) = some p ∧ p.2 ≤ l.length ∧ 1 ≤ p.2
  | _, [], _, _, _, h => by simp [qS] at h
  | 0, c :: r, _, _, hk, _ => by simp at hk
  | k + 1, c :: r, m, p, hk, h => by
    rw [List.cons_append, qS_cons]
    rw [qS_cons] at h
    rw [List.length_cons] at hk ⊢
    by_cases h1 : c = 34
    · rw [if_pos h1] at h ⊢
      cases h
      exact ⟨rfl, by simp, by simp⟩
    · rw [if_neg h1] at h ⊢
      by_cases h2 : c = 92
      · rw [if_pos h2] at h ⊢
        cases r with
        | nil => cases h
        | cons d r2 =>
          simp only [List.cons_append] at h ⊢
          rw [List.length_cons] at hk ⊢
          by_cases h3 : d = 34 ∨ d = 92
          · rw [if_pos h3] at h ⊢
            cases hq : qS r2 with
            | none => rw [hq] at h; cases h
            | some q =>
              rw [hq] at h
              obtain ⟨g1, g2, g3⟩ := qS_app k r2 m q (by omega) hq
              rw [g1]
              cases h
              refine ⟨rfl, ?_, ?_⟩ <;> simp only <;> omega
          · rw [if_neg h3] at h; cases h
      · rw [if_neg h2] at h ⊢
        cases hq : qS r with
        | none => rw [hq] at h; cases h
        | some q =>
          rw [hq] at h
          obtain ⟨g1, g2, g3⟩ := qS_app k r m q (by omega) hq
          rw [g1]
          cases h
          refine ⟨rfl, ?_, ?_⟩ <;> simp only <;> omega

theorem sign_app (l m : Bs) (h : l ≠ []) : signS (l ++ 32 :: m) = signS l := by
  have key : ∀ g ∈ signsL, g.isPrefixOf (l ++ 32 :: m) = g.isPrefixOf l := by
    intro g hg
    match l, h with
    | [c], _ =>
      simp only [signsL, List.mem_cons, List.not_mem_nil, or_false] at hg
      rcases hg with h | h | h | h | h | h | h | h | h | h | h | h | h | h | h | h <;> subst h <;> simp [List.isPrefixOf]
    | c :: d :: r, _ =>
      simp only [signsL, List.mem_cons, List.not_mem_nil, or_false] at hg
      rcases hg with h | h | h | h | h | h | h | h | h | h | h | h | h | h | h | h <;> subst h <;> simp [List.isPrefixOf]
  have : signsL.find? (fun g => g.isPrefixOf (l ++ 32 :: m)) = signsL.find? (fun g => g.isPrefixOf l) := by
    have gen : ∀ L : List Bs, (∀ g ∈ L, g.isPrefixOf (l ++ 32 :: m) = g.isPrefixOf l) → L.find? (fun g => g.isPrefixOf (l ++ 32 :: m)) = L.find? (fun g => g.isPrefixOf l) := by
      intro L
      induction L with
      | nil => intro _; rfl
      | cons g L ih =>
        intro hL
        rw [List.find?_cons, List.find?_cons, hL g (List.mem_cons_self ..), ih fun g hg => hL g (List.mem_cons_of_mem _ hg)]
    exact gen signsL key
  unfold signS
  rw [this]
theorem sign_bd {l : Bs} (h : (signS l).e = 0) : 1 ≤ (signS l).n ∧ (signS l).n ≤ l.length := by
  unfold signS at h ⊢
  cases hf : signsL.find? (fun g => g.isPrefixOf l) with
  | none => rw [hf] at h; cases h
  | some g =>
    have h1 := List.find?_some hf
    have h2 := List.mem_of_find?_eq_some hf
    refine ⟨?_, ?_⟩
    · show 1 ≤ g.length
      simp only [signsL, List.mem_cons, List.not_mem_nil, or_false] at h2
      rcases h2 with h | h | h | h | h | h | h | h | h | h | h | h | h | h | h | h <;> subst h <;> decide
    · show g.length ≤ l.length
      exact (List.isPrefixOf_iff_prefix.1 h1).length_le
theorem name_app (l m : Bs) : nameS (l ++ 32 :: m) = nameS l := by
  have h32 : (lets ++ figs).contains 32 = false := rfl
  unfold nameS
  rw [runS_app _ h32, take_app (runS_le _ _)]
theorem num_app (x : Lx) (l m : Bs) : numS x (l ++ 32 :: m) = numS x l := by
  unfold numS
  rw [numLen_app, take_app (numLen_le _)]

/-- A token that stands does not hang on what follows behind a blank. -/
theorem next_app (x : Lx) (l m : Bs) (h : (nextS x l).e = 0) : nextS x (l ++ 32 :: m) = nextS x l ∧ 1 ≤ (nextS x l).n ∧ (nextS x l).n ≤ l.length := by
  match l with
  | [] => cases h
  | c :: r =>
    rw [List.cons_append]
    unfold nextS at h ⊢
    simp only at h ⊢
    by_cases h1 : figs.contains c = true
    · rw [if_pos h1] at h ⊢
      rw [if_pos h1]
      refine ⟨num_app x (c :: r) m, ?_, numLen_le _⟩
      show 1 ≤ numLen (c :: r)
      unfold numLen
      have := runS_head (l := r) h1
      split <;> omega
    · rw [if_neg h1] at h ⊢
      rw [if_neg h1]
      by_cases h2 : c = 34
      · rw [if_pos h2] at h ⊢
        rw [if_pos h2]
        unfold strS at h ⊢
        cases hq : qS r with
        | none => rw [hq] at h; cases h
        | some p =>
          obtain ⟨g1, g2, g3⟩ := qS_app r.length r (32 :: m) p (Nat.le_refl _) hq
          rw [hq] at h
          rw [g1]
          refine ⟨rfl, ?_, ?_⟩
          · simp only at h ⊢
            split at h
            · cases h
            · rename_i hc; rw [if_neg hc]; simp only; omega
          · simp only at h ⊢
            split at h
            · cases h
            · rename_i hc; rw [if_neg hc]; simp only [List.length_cons]; omega
      · rw [if_neg h2] at h ⊢
        rw [if_neg h2]
        by_cases h3 : c = 64
        · rw [if_pos h3] at h ⊢
          rw [if_pos h3]
          unfold dateS at h ⊢
          cases hq : quoD r with
          | none => rw [hq] at h; cases h
          | some p =>
            have hq2 : quoD (r ++ 32 :: m) = some p ∧ p.2 + 1 ≤ r.length := by
              unfold quoD at hq ⊢
              match r with
              | [] => cases hq
              | d :: r2 =>
                by_cases hd : (d :: r2).head? = some 34
                · rw [if_pos hd] at hq
                  obtain ⟨g1, g2, g3⟩ := qS_app r2.length r2 (32 :: m) p (Nat.le_refl _) hq
                  refine ⟨?_, by rw [List.length_cons]; omega⟩
                  have hd2 : (d :: r2 ++ 32 :: m).head? = some 34 := hd
                  rw [if_pos hd2]
                  exact g1
                · rw [if_neg hd] at hq; cases hq
            rw [hq] at h
            rw [hq2.1]
            refine ⟨rfl, ?_, ?_⟩
            · simp only at h ⊢
              split at h
              · cases h
              · rename_i hc; rw [if_neg hc]; simp
            · simp only at h ⊢
              split at h
              · cases h
              · rename_i hc
                rw [if_neg hc]
                have h11 : p.2 = 11 := Classical.byContradiction fun hn => hc (.inr hn)
                have := hq2.2
                simp only [List.length_cons]
                omega
        · rw [if_neg h3] at h ⊢
          rw [if_neg h3]
          by_cases h4 : lets.contains c = true
          · rw [if_pos h4] at h ⊢
            rw [if_pos h4]
            refine ⟨name_app (c :: r) m, ?_, ?_⟩
            · have h5 : 1 ≤ runS (lets ++ figs) (c :: r) := runS_head (by
                rw [List.contains_iff_mem] at h4 ⊢
                exact List.mem_append_left _ h4)
              unfold nameS at h ⊢
              split at h
              · cases h
              · rename_i hc; rw [if_neg hc]; exact h5
            · have := runS_le (lets ++ figs) (c :: r)
              unfold nameS at h ⊢
              split at h
              · cases h
              · rename_i hc; rw [if_neg hc]; exact this
          · rw [if_neg h4] at h ⊢
            rw [if_neg h4]
            exact ⟨sign_app (c :: r) m (by simp), sign_bd h⟩
end Go.Proofs.YtkkeplmaphcblaaGreatDoor

namespace Go.Proofs.YtkkeplmaphcblaaGreatDoor

theorem next_bd (x : Lx) (l : Bs) (h : (nextS x l).e = 0) : 1 ≤ (nextS x l).n ∧ (nextS x l).n ≤ l.length := (next_app x l [] h).2
theorem toksA_end {x : Lx} {f a : Nat} {l : Bs} {acc : List Tk} (h : l.drop (runS whites l) = []) : toksA x (f + 1) a l acc = ⟨acc, 0, 0⟩ := by rw [toksA, h]
theorem toksA_go {x : Lx} {f a : Nat} {l : Bs} {acc : List Tk} {c : UInt8} {r : Bs} (h : l.drop (runS whites l) = c :: r) (he : (nextS x (c :: r)).e = 0) :
    toksA x (f + 1) a l acc = toksA x f (a + runS whites l + (nextS x (c :: r)).n) ((c :: r).drop (nextS x (c :: r)).n) (acc ++ [{ (nextS x (c :: r)).t with a := a + runS whites l }]) := by
  rw [toksA, h]
  simp only
  rw [if_pos he]
theorem toksA_bad {x : Lx} {f a : Nat} {l : Bs} {acc : List Tk} {c : UInt8} {r : Bs} (h : l.drop (runS whites l) = c :: r) (he : ¬ (nextS x (c :: r)).e = 0) :
    toksA x (f + 1) a l acc = ⟨[], a + runS whites l, (nextS x (c :: r)).e⟩ := by
  rw [toksA, h]
  simp only
  rw [if_neg he]
theorem len_drop {l : Bs} {k : Nat} {c : UInt8} {r : Bs} (h : l.drop k = c :: r) : k + (c :: r).length = l.length ∧ k < l.length := by
  have := congrArg List.length h
  rw [List.length_drop, List.length_cons] at this
  rw [List.length_cons]
  omega

theorem toks_fuel (x : Lx) : ∀ (f1 f2 a : Nat) (l : Bs) (acc : List Tk), l.length < f1 → l.length < f2 → toksA x f1 a l acc = toksA x f2 a l acc
  | 0, _, _, _, _, h, _ => by omega
  | _ + 1, 0, _, _, _, _, h => by omega
  | f1 + 1, f2 + 1, a, l, acc, h1, h2 => by
    cases hd : l.drop (runS whites l) with
    | nil => rw [toksA_end hd, toksA_end hd]
    | cons c r =>
      by_cases he : (nextS x (c :: r)).e = 0
      · have hb := next_bd x _ he
        have hl := len_drop hd
        rw [toksA_go hd he, toksA_go hd he]
        have : ((c :: r).drop (nextS x (c :: r)).n).length + (nextS x (c :: r)).n = (c :: r).length := by rw [List.length_drop]; omega
        exact toks_fuel x f1 f2 _ _ _ (by omega) (by omega)
      · rw [toksA_bad hd he, toksA_bad hd he]
theorem toks_parts (x : Lx) (m : Bs) : ∀ (f a : Nat) (l : Bs) (acc : List Tk), l.length < f → (toksA x f a l acc).e = 0 → ∀ f2, l.length + m.length + 1 < f2 → toksA x f2 a (l ++ 32 :: m) acc = toksA x f2 (a + l.length + 1) m (toksA x f a l acc).l
  | 0, _, _, _, h, _, _, _ => by omega
  | f + 1, a, l, acc, h, hT, 0, h2 => by omega
  | f + 1, a, l, acc, h, hT, g + 1, h2 => by
    have hw : whites.contains 32 = true := rfl
    cases hd : l.drop (runS whites l) with
    | nil =>
      have hk : runS whites l = l.length := by
        have h1 := runS_le whites l
        have h3 := congrArg List.length hd
        rw [List.length_drop, List.length_nil] at h3
        omega
      rw [toksA_end hd]
      have hr : runS whites (l ++ 32 :: m) = l.length + 1 + runS whites m := by
        rw [runS_all _ _ _ hk, runS_cons, if_pos hw]
        omega
      have hdr : (l ++ 32 :: m).drop (runS whites (l ++ 32 :: m)) = m.drop (runS whites m) := by
        rw [hr, List.drop_append, List.drop_of_length_le (by omega), List.nil_append, show l.length + 1 + runS whites m - l.length = runS whites m + 1 by omega]
        rfl
      cases hm : m.drop (runS whites m) with
      | nil => rw [toksA_end (by rw [hdr, hm]), toksA_end hm]
      | cons c r =>
        by_cases he : (nextS x (c :: r)).e = 0
        · rw [toksA_go (hdr.trans hm) he, toksA_go hm he, hr, show a + (l.length + 1 + runS whites m) = a + l.length + 1 + runS whites m by omega]
        · rw [toksA_bad (hdr.trans hm) he, toksA_bad hm he, hr, show a + (l.length + 1 + runS whites m) = a + l.length + 1 + runS whites m by omega]
    | cons c r =>
      have hl := len_drop hd
      by_cases he : (nextS x (c :: r)).e = 0
      · have hb := next_bd x _ he
        have ha := (next_app x (c :: r) m he).1
        rw [toksA_go hd he] at hT ⊢
        have hr : runS whites (l ++ 32 :: m) = runS whites l := runS_in hl.2 _
        have hdr : (l ++ 32 :: m).drop (runS whites (l ++ 32 :: m)) = c :: (r ++ 32 :: m) := by rw [hr, drop_app (by omega), hd]; rfl
        have ha2 : nextS x (c :: (r ++ 32 :: m)) = nextS x (c :: r) := ha
        rw [toksA_go hdr (by rw [ha2]; exact he), ha2, hr]
        have hcut : (c :: (r ++ 32 :: m)).drop (nextS x (c :: r)).n = (c :: r).drop (nextS x (c :: r)).n ++ 32 :: m := drop_app (l := c :: r) hb.2
        have hlen : ((c :: r).drop (nextS x (c :: r)).n).length + (nextS x (c :: r)).n = (c :: r).length := by rw [List.length_drop]; omega
        rw [hcut, toks_parts x m f _ _ _ (by omega) hT g (by omega)]
        rw [show a + runS whites l + (nextS x (c :: r)).n + ((c :: r).drop (nextS x (c :: r)).n).length + 1 = a + l.length + 1 by omega]
        exact toks_fuel x _ _ _ _ _ (by omega) (by omega)
      · rw [toksA_bad hd he] at hT
        exact absurd hT he

def shiftT (d : Nat) (t : Tk) : Tk := { t with a := t.a + d }
theorem shift_shift (c d : Nat) (L : List Tk) : (L.map (shiftT c)).map (shiftT d) = L.map (shiftT (c + d)) := by
  rw [List.map_map]
  congr 1
  funext t
  simp [shiftT, Nat.add_assoc]
theorem toks_shift (x : Lx) : ∀ (f a : Nat) (l : Bs) (acc : List Tk), toksA x f a l acc = if (toksA x f 0 l []).e = 0 then ⟨acc ++ (toksA x f 0 l []).l.map (shiftT a), 0, 0⟩ else ⟨[], (toksA x f 0 l []).n + a, (toksA x f 0 l []).e⟩
  | 0, a, l, acc => by simp [toksA]
  | f + 1, a, l, acc => by
    cases hd : l.drop (runS whites l) with
    | nil => rw [toksA_end hd, toksA_end hd]; simp
    | cons c r =>
      by_cases he : (nextS x (c :: r)).e = 0
      · rw [toksA_go hd he, toksA_go hd he]
        rw [toks_shift x f (a + runS whites l + (nextS x (c :: r)).n), toks_shift x f (0 + runS whites l + (nextS x (c :: r)).n)]
        by_cases h0 : (toksA x f 0 ((c :: r).drop (nextS x (c :: r)).n) []).e = 0
        · rw [if_pos h0, if_pos h0, if_pos rfl]
          simp only [List.nil_append, List.map_append, List.map_cons, List.map_nil, List.append_assoc]
          have e2 : shiftT a { (nextS x (c :: r)).t with a := 0 + runS whites l } = { (nextS x (c :: r)).t with a := a + runS whites l } := by simp [shiftT, Nat.add_comm]
          rw [shift_shift, e2, show 0 + runS whites l + (nextS x (c :: r)).n + a = a + runS whites l + (nextS x (c :: r)).n by omega]
        · rw [if_neg h0, if_neg h0, if_neg h0]
          simp only
          congr 1
          omega
      · rw [toksA_bad hd he, toksA_bad hd he, if_neg he]
        simp only
        congr 1
        omega
theorem toksS_parts (x : Lx) (a b : Bs) (h : (toksS x a).e = 0) (hlen : a.length + b.length < 65536) :
    toksS x (a ++ 32 :: b) = if (toksS x b).e = 0 then ⟨(toksS x a).l ++ (toksS x b).l.map (shiftT (a.length + 1)), 0, 0⟩ else ⟨[], (toksS x b).n + (a.length + 1), (toksS x b).e⟩ := by
  have hl : (a ++ 32 :: b).length = a.length + b.length + 1 := by rw [List.length_append, List.length_cons]; omega
  have ea : toksS x a = toksA x (a.length + 1) 0 a [] := by unfold toksS; rw [if_neg (by omega)]
  have eb : toksS x b = toksA x (b.length + 1) 0 b [] := by unfold toksS; rw [if_neg (by omega)]
  have ec : toksS x (a ++ 32 :: b) = toksA x (a.length + b.length + 1 + 1) 0 (a ++ 32 :: b) [] := by unfold toksS; rw [hl, if_neg (by omega)]
  rw [ea] at h
  rw [ea, eb, ec]
  rw [toks_parts x b (a.length + 1) 0 a [] (by omega) h _ (by omega), Nat.zero_add, toks_shift]
  rw [toks_fuel x (a.length + b.length + 1 + 1) (b.length + 1) 0 b [] (by omega) (by omega)]
end Go.Proofs.YtkkeplmaphcblaaGreatDoor

namespace Go.Proofs.YtkkeplmaphcblaaGreatDoor
open Go.RowKit

theorem trim_left (s cs : ByteArray) (w : World) (hcs : cs.size < 4294967281) (h : cs.data.toList.all (fun b => decide (b.toNat < 128)) = true) :
    Calls Tryz.prog 161 #[.string s, .string cs] w fun e w' => e = .returned (.string (bs (s.data.toList.dropWhile (cs.data.toList.contains ·)))) ∧ Below w.heap.size w w' :=
  Any.strings_TrimLeft_laid Tryz.lays161 (by kernel_rfl) s cs w hcs (ascii_of_all h)

theorem bs_size (l : Bs) : (bs l).size = l.length := by simp [bs, ByteArray.size]
theorem size_list (s : ByteArray) : s.data.toList.length = s.size := by simp
theorem run_any (s cs : ByteArray) (k : Nat) (hs : s.size ≤ 9223372036854775807) (hcs : cs.size < 4294967281) (h : cs.data.toList.all (fun b => decide (b.toNat < 128)) = true) (hk : runS cs.data.toList s.data.toList = k) (w : World) :
    Calls Tryz.prog 116 #[.string s, .string cs] w fun e w' => e = .returned (.int .i64 (k : Int)) ∧ Below w.heap.size w w' := by
  have HT := Lib.hid (fun W => trim_left s cs W hcs h)
  have hl : (s.data.toList.dropWhile (cs.data.toList.contains ·)).length + k = s.size := by
    have h1 := congrArg List.length (List.takeWhile_append_dropWhile (p := (cs.data.toList.contains ·)) (l := s.data.toList))
    rw [List.length_append, size_list] at h1
    unfold runS at hk
    omega
  have h2 := bs_size (s.data.toList.dropWhile (cs.data.toList.contains ·))
  generalize s.data.toList.dropWhile (cs.data.toList.contains ·) = D at *
  obtain ⟨B, hB⟩ : ∃ B, bs D = B := ⟨_, rfl⟩
  rw [hB] at HT h2
  have k1 : IntKind.i64.wrap ((s.size : Int) - (B.size : Int)) = (k : Int) := by rw [show (s.size : Int) - (B.size : Int) = (k : Int) by omega]; exact IntWalk.i64_in _ (by omega)
  clear hk hB hl h2
  go_enter Tryz.func116, Tryz.ntmps116
  go_wp2_with fail
  refine (HT.out _).mono ?_
  rintro _ w1 ⟨rfl, hb⟩
  go_wp2_with fail
  go_returns
  exact ⟨rfl, by (repeat' (first | (with_reducible exact Below.refl _ _) | (with_reducible assumption) | (with_reducible refine balloc ?_ _) | (with_reducible refine Below.drew ?_) | (with_reducible refine bset ?_ ?_ _) | (with_reducible refine bstep ?_ (by with_reducible assumption)) | (with_reducible refine bturn ?_ (by with_reducible assumption) ?_) | go_size))⟩
end Go.Proofs.YtkkeplmaphcblaaGreatDoor

namespace Go.Proofs.YtkkeplmaphcblaaGreatDoor
open Go.RowKit Go.Shelf

theorem sizeB : (Tryz.prog.info? 95).map (·.size) = some 2 := by kernel_rfl
theorem liesB : liesAt Tryz.prog Tryz.prog.depth 95 (2 / Tryz.prog.cellsOf 95) 0 95 1 = true := by kernel_rfl
theorem infoU8 : (Tryz.prog.info? 5).map (fun i => (i.zero, i.size, i.bytes)) = some (some (.int .u8 0), 1, 1) := by kernel_rfl

abbrev IsB (B b : Nat) (l : Bs) (w : World) : Prop := Lib.IsBuilder 95 5 B b (Lib.byteCells l) w

set_option maxHeartbeats 1000000 in
set_option maxRecDepth 100000 in
theorem check_used (b : Nat) (w : World) (h0 : w.cell? ⟨b, 0, none⟩ = some (.pointer (some ⟨b, 0, none⟩))) :
    Calls Tryz.prog 143 #[.pointer (some ⟨b, 0, none⟩)] w fun e w' => e = .returned (.tuple #[]) ∧ w' = w := by
  obtain ⟨j, hj, _⟩ := Option.map_eq_some_iff.1 sizeB
  go_enter Tryz.func143, Tryz.ntmps143
  go_wp2
  rw [Lib.run_neq_ptr_same w _ Tryz.underlying92 hj]
  go_wp2
  go_end0
  exact ⟨rfl, rfl⟩

set_option maxHeartbeats 1000000 in
set_option maxRecDepth 100000 in
theorem check_fresh (b : Nat) (w : World) (h0 : w.cell? ⟨b, 0, none⟩ = some (.pointer none)) (hsh : w.shape? b = some (95, 2)) (hfz : w.frozen? ⟨b, 0, none⟩ = false) :
    Calls Tryz.prog 143 #[.pointer (some ⟨b, 0, none⟩)] w fun e w' => e = .returned (.tuple #[]) ∧ w' = w.setCell ⟨b, 0, none⟩ (.pointer (some ⟨b, 0, none⟩)) := by
  obtain ⟨j, hj, hjs⟩ := Option.map_eq_some_iff.1 sizeB
  go_enter Tryz.func143, Tryz.ntmps143
  go_wp2
  rw [Lib.run_to_unsafe w ⟨b, 0, none⟩ Tryz.underlying92 Tryz.underlying229 hj (by rw [hjs]; decide) hsh (Nat.zero_lt_succ 1)]
  simp only [Result.andThen]
  rw [Oper.upon_value]
  go_wp2
  rw [run_callFunc_extern Tryz.func189 (by kernel_rfl) (by kernel_rfl) (by kernel_rfl) (e := Extern.AbiNoEscape.same) (by kernel_rfl)]
  rw [Lib.run_noEscape]
  simp only [Result.andThen]
  rw [Oper.upon_value]
  go_wp2
  rw [Lib.run_from_unsafe w ⟨b, 0, none⟩ Tryz.underlying229 Tryz.underlying92 hj hsh liesB]
  simp only [Result.andThen]
  rw [Oper.upon_value]
  go_wp2
  go_end0
  exact ⟨rfl, rfl⟩

theorem check_any (B b : Nat) (l : List Value) (w : World) (h : Lib.IsBuilder 95 5 B b l w) :
    Calls Tryz.prog 143 #[.pointer (some ⟨b, 0, none⟩)] w fun e w' => e = .returned (.tuple #[]) ∧ Lib.BuilderAt 95 5 B b (.pointer (some ⟨b, 0, none⟩)) l w' ∧ Below B w w' := by
  rcases h with h | h
  · refine (check_fresh b w h.cell0 h.shape h.frozen0).mono ?_
    rintro e w' ⟨rfl, rfl⟩
    exact ⟨rfl, h.used _, (Below.refl B w).setCell (p := ⟨b, 0, none⟩) h.1 _⟩
  · refine (check_used b w h.cell0).mono ?_
    rintro e w' ⟨rfl, rfl⟩
    exact ⟨rfl, h, Below.refl B _⟩

set_option maxHeartbeats 2000000 in
set_option maxRecDepth 100000 in
theorem byte_any (B b : Nat) (l : List Value) (c : Int) (w : World) (h : Lib.IsBuilder 95 5 B b l w) (hlen : l.length + 1 ≤ 1000000000) (hBw : B ≤ w.heap.size) :
    Calls Tryz.prog 106 #[.pointer (some ⟨b, 0, none⟩), .int .u8 c] w fun e w' => e = .returned .nilIface ∧ Lib.BuilderAt 95 5 B b (.pointer (some ⟨b, 0, none⟩)) (l ++ [.int .u8 c]) w' ∧ Below B w w' := by
  obtain ⟨i0, hi, hz0, hz1, hz2⟩ := info_parts infoU8
  go_enter Tryz.func106, Tryz.ntmps106
  go_wp2_with (go_at_call 143; refine (check_any B b l _ h).mono ?_)
  rintro e w1 ⟨rfl, h1, hb1⟩
  obtain ⟨hB, v, hbk, hown, hne⟩ := h1
  have c0 : w1.cell? ⟨b, 0, none⟩ = some (.pointer (some ⟨b, 0, none⟩)) := by rw [Lib.cell_of_heap hbk]; rfl
  have c1 : w1.cell? ⟨b, 1, none⟩ = some v := by rw [Lib.cell_of_heap hbk]; rfl
  go_wp2_with (at_builtin; refine wpList_append_own _ rfl _ _ 93 rfl B 5 i0 (.int .u8 0) 1 1 Tryz.underlying93 hi hz0 hz1 hz2 rfl (by decide) _ _ _ rfl (hown.alloc _) ⟨w1.heap.size, 0, none⟩ 1 1 [.int .u8 c] rfl rfl ?c1 ?c2 ?c3 ?c4 ?c5 ?_)
  case c1 =>
    intro j u hj
    match j, hj with
    | 0, hj => simp at hj; subst hj; simp [Addr.add]
  case c2 => intro u hu; simp at hu; subst hu; rfl
  case c3 => unfold maxLen; omega
  case c4 => omega
  case c5 => have := hb1.size; simp; omega
  intro v' w2 hown' hgrow _
  have hlt : b < w1.heap.size := by
    rcases Nat.lt_or_ge b w1.heap.size with h' | h'
    · exact h'
    · simp [Array.getElem?_eq_none h'] at hbk
  have hb2 : w2.heap[b]? = some (.cells #[.pointer (some ⟨b, 0, none⟩), v] 95 (0, 0)) := by
    rw [hgrow.block b (by simp; omega) (fun e => hne e.symm), Lib.alloc_old w1 _ b hlt]
    exact hbk
  have d0 : w2.cell? ⟨b, 0, none⟩ = some (.pointer (some ⟨b, 0, none⟩)) := by rw [Lib.cell_of_heap hb2]; rfl
  have d1 : w2.cell? ⟨b, 1, none⟩ = some v := by rw [Lib.cell_of_heap hb2]; rfl
  have f1 : w2.frozen? ⟨b, 1, none⟩ = false := Lib.frozen_of_heap hb2 1
  obtain ⟨g, cap, rfl⟩ : ∃ g cap, v' = .slice (some ⟨g, 0, none⟩) (l.length + 1) cap := by
    rcases hown'.2 with ⟨_, h0⟩ | ⟨g, cap, cur, hv, _⟩
    · omega
    · exact ⟨g, cap, hv⟩
  go_wp2
  go_ret
  refine ⟨rfl, ?_, ?_⟩
  · exact Lib.BuilderAt.put (T := 95) (e := 5) hB hb2 (bs' := l ++ [.int .u8 c]) (by simpa using hown') (by decide)
  · exact ((hb1.alloc (by have := hb1.size; omega) _).grown hgrow (by have := hb1.size; simp; omega) (fun k hk => (hown.lt k hk).1)).setCell (p := ⟨b, 1, none⟩) hB _
end Go.Proofs.YtkkeplmaphcblaaGreatDoor

namespace Go.Proofs.YtkkeplmaphcblaaGreatDoor
open Go.RowKit Go.Shelf

set_option maxHeartbeats 2000000 in
set_option maxRecDepth 100000 in
theorem str_any (B b : Nat) (l : List Value) (s : ByteArray) (w : World) (h : Lib.IsBuilder 95 5 B b l w) (hlen : l.length + s.size ≤ 1000000000) (hBw : B ≤ w.heap.size) :
    Calls Tryz.prog 94 #[.pointer (some ⟨b, 0, none⟩), .string s] w fun e w' => e = .returned (.tuple #[.int .i64 s.size, .nilIface]) ∧ Lib.BuilderAt 95 5 B b (.pointer (some ⟨b, 0, none⟩)) (l ++ Lib.strCells s) w' ∧ Below B w w' := by
  obtain ⟨i0, hi, hz0, hz1, hz2⟩ := info_parts infoU8
  go_enter Tryz.func94, Tryz.ntmps94
  go_wp2_with (go_at_call 143; refine (check_any B b l _ h).mono ?_)
  rintro e w1 ⟨rfl, h1, hb1⟩
  obtain ⟨hB, v, hbk, hown, hne⟩ := h1
  have c0 : w1.cell? ⟨b, 0, none⟩ = some (.pointer (some ⟨b, 0, none⟩)) := by rw [Lib.cell_of_heap hbk]; rfl
  have c1 : w1.cell? ⟨b, 1, none⟩ = some v := by rw [Lib.cell_of_heap hbk]; rfl
  go_wp2_with (at_builtin; refine Lib.wpList_append_own_string _ rfl _ _ 93 9 rfl B 5 i0 Tryz.underlying93 Tryz.underlying9 hi hz0 hz1 hz2 _ _ _ rfl hown s rfl ?c3 ?c4 ?c5 ?_)
  case c3 => unfold maxLen; omega
  case c4 => omega
  case c5 => have := hb1.size; omega
  intro v' w2 hown' hgrow _
  have hlt : b < w1.heap.size := (Array.getElem?_eq_some_iff.1 hbk).1
  have hb2 : w2.heap[b]? = some (.cells #[.pointer (some ⟨b, 0, none⟩), v] 95 (0, 0)) := by
    rw [hgrow.block b hlt (fun e => hne e.symm)]
    exact hbk
  have d0 : w2.cell? ⟨b, 0, none⟩ = some (.pointer (some ⟨b, 0, none⟩)) := by rw [Lib.cell_of_heap hb2]; rfl
  have d1 : w2.cell? ⟨b, 1, none⟩ = some v := by rw [Lib.cell_of_heap hb2]; rfl
  have f1 : w2.frozen? ⟨b, 1, none⟩ = false := Lib.frozen_of_heap hb2 1
  obtain ⟨ao, n', cap, rfl⟩ : ∃ ao n' cap, v' = .slice ao n' cap := by
    rcases hown'.2 with ⟨hv, _⟩ | ⟨g, cap, cur, hv, _⟩
    · exact ⟨_, _, _, hv⟩
    · exact ⟨_, _, _, hv⟩
  go_wp2
  go_ret2
  refine ⟨rfl, ?_, ?_⟩
  · exact Lib.BuilderAt.put (T := 95) (e := 5) hB hb2 (bs' := l ++ Lib.strCells s) (by simpa [Lib.strCells_length] using hown') (by decide)
  · exact (hb1.grown hgrow (by have := hb1.size; omega) (fun k hk => (hown.lt k hk).1)).setCell (p := ⟨b, 1, none⟩) hB _
theorem str_cells (o : Bs) (s : ByteArray) : Lib.byteCells o ++ Lib.strCells s = Lib.byteCells (o ++ s.data.toList) := by
  simp [Lib.byteCells, Lib.strCells]
end Go.Proofs.YtkkeplmaphcblaaGreatDoor

namespace Go.Proofs.YtkkeplmaphcblaaGreatDoor

/-- How a parser stands. -/
structure PS where
  L : List Tk
  nx : Nat
  en : Nat
  a : Int
  e : Int
  md : Int
/-- A value. -/
structure Vl where
  k : Int
  n : Int
  s : Int
  t : Bs
  m : Int
def zeroV : Vl := ⟨0, 0, 0, [], 0⟩
def PS.isS (p : PS) (s : Bs) : Bool :=
  p.e == 0 && match p.L[p.nx]? with
    | none => false
    | some t => (t.k == 4 || t.k == 5) && t.t == s
def PS.at' (p : PS) : Int :=
  match p.L[p.nx]? with
  | none => (p.en : Int)
  | some t => (t.a : Int)
def PS.fail (p : PS) (c : Int) : PS := if p.e = 0 then { p with a := p.at', e := c } else p
def PS.adv (p : PS) : PS := { p with nx := p.nx + 1 }
def PS.take (p : PS) (s : Bs) : PS := if p.isS s then p.adv else p
def PS.need (p : PS) (s : Bs) : PS := if p.isS s then p.adv else p.fail 5
def PS.ended (p : PS) : Bool := p.e == 0 && p.nx == p.L.length
def trueB : Bs := [116, 114, 117, 101]
def falseB : Bs := [102, 97, 108, 115, 101]
def nullB : Bs := [110, 117, 108, 108]
/-- The value that a token is. -/
def valT (t : Tk) : Option Vl :=
  if t.k = 1 then some ⟨1, t.n, t.s, [], 0⟩
  else if t.k = 2 then some ⟨2, 0, 0, t.t, 0⟩
  else if t.k = 3 then some ⟨4, 0, 0, [], t.m⟩
  else if (t.k = 4 ∨ t.k = 5) ∧ t.t = trueB then some ⟨3, 0, 0, [], 1⟩
  else if (t.k = 4 ∨ t.k = 5) ∧ t.t = falseB then some ⟨3, 0, 0, [], 0⟩
  else if (t.k = 4 ∨ t.k = 5) ∧ t.t = nullB then some zeroV
  else none
def PS.val (p : PS) : Option Vl :=
  if p.e = 0 then (match p.L[p.nx]? with
    | none => none
    | some t => valT t) else none
def PS.valP (p : PS) : PS := match p.val with | none => p | some _ => p.adv

/-- The parser of a text. -/
def newP (T : Tks) (en : Nat) : PS := ⟨T.l, 0, en, (T.n : Int), T.e, 0⟩
theorem isS_none {p : PS} {s : Bs} (h : p.L[p.nx]? = none) : p.isS s = false := by unfold PS.isS; rw [h]; simp
theorem isS_err {p : PS} {s : Bs} (h : ¬ p.e = 0) : p.isS s = false := by
  unfold PS.isS
  rw [show (p.e == 0) = false by simpa using h]
  rfl
theorem isS_some {p : PS} {s : Bs} {t : Tk} (he : p.e = 0) (h : p.L[p.nx]? = some t) : p.isS s = ((t.k == 4 || t.k == 5) && t.t == s) := by
  unfold PS.isS
  rw [h, he]
  rfl
end Go.Proofs.YtkkeplmaphcblaaGreatDoor

namespace Go.Proofs.YtkkeplmaphcblaaGreatDoor
open Go.RowKit

def quoV : Option (Bs × Nat) → Value
  | none => .tuple #[.string ⟨#[]⟩, .int .i64 0, .bool false]
  | some p => .tuple #[.string (bs p.1), .int .i64 ((p.2 + 1 : Nat) : Int), .bool true]
theorem byte_drop (s : ByteArray) (k : Nat) (h : k < s.size) : s.data.toList.drop k = s[k] :: s.data.toList.drop (k + 1) := by
  have h2 : k < s.data.toList.length := by rw [size_list]; exact h
  rw [List.drop_eq_getElem_cons h2]
  rfl
theorem drop_end (s : ByteArray) (k : Nat) (h : s.size ≤ k) : s.data.toList.drop k = [] := List.drop_of_length_le (by rw [size_list]; exact h)
theorem cells_snoc (o : Bs) (c : UInt8) : Lib.byteCells o ++ [Value.int .u8 (c.toNat : Int)] = Lib.byteCells (o ++ [c]) := by simp [Lib.byteCells]

set_option maxHeartbeats 2000000 in
set_option maxRecDepth 100000 in
theorem quoted_any (s : ByteArray) (h0 : 1 ≤ s.size) (hs : s.size ≤ 4000000) (R : Value) (hR : quoV (qS (s.data.toList.drop 1)) = R) (w : World) :
    Calls Tryz.prog 164 #[.string s] w fun e w' => e = .returned R ∧ Below w.heap.size w w' := by
  have HR := Lib.hid hR
  clear hR
  have hB0 := Lib.fresh_isBuilder 95 5 w
  have HB0 := Lib.hid hB0
  clear hB0
  go_enter Tryz.func164, Tryz.ntmps164
  go_wp2_with fail
  go_loopw [6, 16, 21] (fun i _ _ wr => ∃ (k : Nat) (o : Bs), 1 ≤ k ∧ k ≤ s.size ∧ i = .int .i64 (k : Int) ∧ o.length ≤ k ∧ Hid (qS (s.data.toList.drop 1) = (qS (s.data.toList.drop k)).map fun p => (o ++ p.1, p.2 + (k - 1))) ∧ IsB w.heap.size w.heap.size o wr ∧ Below w.heap.size w wr) (fun i _ _ _ => s.size - (intOf i).toNat)
  case atStart => exact ⟨1, [], by omega, h0, rfl, by simp, Lib.hid (by cases qS (s.data.toList.drop 1) <;> simp), HB0.out, by (repeat' (first | (with_reducible exact Below.refl _ _) | (with_reducible assumption) | (with_reducible refine balloc ?_ _) | (with_reducible refine Below.drew ?_) | (with_reducible refine bset ?_ ?_ _) | (with_reducible refine bstep ?_ (by with_reducible assumption)) | (with_reducible refine bturn ?_ (by with_reducible assumption) ?_) | go_size))⟩
  case round =>
    obtain ⟨k, o, hk1, hk, rfl, ho, HQ, hB, hbr⟩ := hrel
    have hsz := hbr.size
    have HB := Lib.hid hB
    clear hB
    by_cases hlt : k < s.size
    · have hd := byte_drop s k hlt
      have hx := qS_cons s[k] (s.data.toList.drop (k + 1))
      rw [← hd] at hx
      by_cases h34 : s[k] = 34
      · rw [if_pos h34] at hx
        have hq := HQ.out
        rw [hx] at hq
        have HE : Hid (R = .tuple #[.string (bs o), .int .i64 ((k + 1 : Nat) : Int), .bool true]) := by
          refine Lib.hid ?_
          rw [← HR.out, hq]
          show Value.tuple #[.string (bs (o ++ [])), .int .i64 (((1 + (k - 1)) + 1 : Nat) : Int), .bool true] = _
          rw [List.append_nil, show (1 + (k - 1)) + 1 = k + 1 by omega]
        have x0 : ((s[k].toNat : Nat) : Int) = 34 := by rw [h34]; rfl
        clear hx hd h34 hq
        have HS := Lib.hid (fun W hh => Tryz.Builder_String_any w.heap.size w.heap.size o W hh)
        go_wp2_with fail
        refine (HS.out _ HB.out (by omega)).mono ?_
        rintro _ w2 ⟨rfl, hb2⟩
        go_wp2_with fail
        go_returns
        exact ⟨by rw [HE.out]; rfl, by exact hbr.trans hb2⟩
      · rw [if_neg h34] at hx
        have x0 : ¬ ((s[k].toNat : Nat) : Int) = 34 := fun e => h34 (UInt8.toNat_inj.1 (by rw [show (34 : UInt8).toNat = 34 from rfl]; omega))
        by_cases h92 : s[k] = 92
        · rw [if_pos h92] at hx
          have x1 : ((s[k].toNat : Nat) : Int) = 92 := by rw [h92]; rfl
          obtain ⟨k2, hk2⟩ : ∃ k2, k + 1 = k2 := ⟨_, rfl⟩
          rw [hk2] at hx hd
          have ki : (k : Int) + 1 = (k2 : Int) := by omega
          have kw : IntKind.i64.wrap (k2 : Int) = (k2 : Int) := IntWalk.i64_in _ (by omega)
          by_cases hlt2 : k2 < s.size
          · have hd2 := byte_drop s k2 hlt2
            rw [hd2] at hx
            simp only at hx
            have kE : ¬ ((k2 : Int) = (s.size : Int)) := by omega
            obtain ⟨k3, hk3⟩ : ∃ k3, k2 + 1 = k3 := ⟨_, rfl⟩
            rw [hk3] at hx hd2
            have ki2 : (k2 : Int) + 1 = (k3 : Int) := by omega
            have kw3 : IntKind.i64.wrap (k3 : Int) = (k3 : Int) := IntWalk.i64_in _ (by omega)
            obtain ⟨y, hy0⟩ : ∃ y, s[k2] = y := ⟨_, rfl⟩
            rw [hy0] at hx hd2
            have hyv : ((s[k2].toNat : Nat) : Int) = ((y.toNat : Nat) : Int) := by rw [hy0]
            by_cases hy : y = 34 ∨ y = 92
            · rw [if_pos hy] at hx
              have hq := HQ.out
              rw [hx] at hq
              have HQ2 : Hid (qS (s.data.toList.drop 1) = (qS (s.data.toList.drop k3)).map fun p => ((o ++ [y]) ++ p.1, p.2 + (k3 - 1))) := by
                refine Lib.hid ?_
                rw [hq]
                cases qS (s.data.toList.drop k3) with
                | none => rfl
                | some p =>
                  simp only [Option.map_some, List.append_assoc, List.singleton_append]
                  congr 2
                  omega
              have HC := Lib.hid (cells_snoc o y)
              have HWr := Lib.hid (fun W hh hl hw => byte_any w.heap.size w.heap.size (Lib.byteCells o) ((y.toNat : Nat) : Int) W hh hl hw)
              have hob : (Lib.byteCells o).length + 1 ≤ 1000000000 := by rw [Lib.byteCells_length]; omega
              have Hob := Lib.hid hob
              rcases hy with hy | hy
              · have y1 : ((y.toNat : Nat) : Int) = 34 := by rw [hy]; rfl
                rw [y1] at hyv HWr
                rw [y1] at HC
                clear hx hd hd2 hq h34 h92 y1 hob hk2 hk3 hy hy0
                go_wp2_with fail
                refine (HWr.out _ HB.out Hob.out (by omega)).mono ?_
                rintro _ w2 ⟨rfl, hB2, hb2⟩
                rw [HC.out] at hB2
                go_wp2_with fail
                go_roundw
                case rel => exact ⟨k3, o ++ [y], by omega, by omega, by go_num, by rw [List.length_append, List.length_singleton]; omega, HQ2, .inr hB2, hbr.trans hb2⟩
                case measure => simp [intOf]; omega
              · have y1 : ((y.toNat : Nat) : Int) = 92 := by rw [hy]; rfl
                rw [y1] at hyv HWr
                rw [y1] at HC
                clear hx hd hd2 hq h34 h92 y1 hob hk2 hk3 hy hy0
                go_wp2_with fail
                refine (HWr.out _ HB.out Hob.out (by omega)).mono ?_
                rintro _ w2 ⟨rfl, hB2, hb2⟩
                rw [HC.out] at hB2
                go_wp2_with fail
                go_roundw
                case rel => exact ⟨k3, o ++ [y], by omega, by omega, by go_num, by rw [List.length_append, List.length_singleton]; omega, HQ2, .inr hB2, hbr.trans hb2⟩
                case measure => simp [intOf]; omega
            · rw [if_neg hy] at hx
              have hq := HQ.out
              rw [hx] at hq
              have HE : Hid (R = .tuple #[.string ⟨#[]⟩, .int .i64 0, .bool false]) := Lib.hid (by rw [← HR.out, hq]; rfl)
              have y1 : ¬ ((y.toNat : Nat) : Int) = 34 := fun e => hy (.inl (UInt8.toNat_inj.1 (by rw [show (34 : UInt8).toNat = 34 from rfl]; omega)))
              have y2 : ¬ ((y.toNat : Nat) : Int) = 92 := fun e => hy (.inr (UInt8.toNat_inj.1 (by rw [show (92 : UInt8).toNat = 92 from rfl]; omega)))
              have b1 : (((y.toNat : Nat) : Int) != 34) = true := by simpa using y1
              have b2 : (((y.toNat : Nat) : Int) != 92) = true := by simpa using y2
              clear hx hd hd2 hq h34 h92 hk2 hk3 hy hy0 y1 y2
              go_wp2_with fail
              go_returns
              exact ⟨by rw [HE.out]; rfl, hbr⟩
          · have kE : (k2 : Int) = (s.size : Int) := by omega
            rw [drop_end s k2 (by omega)] at hx
            have hq := HQ.out
            rw [hx] at hq
            have HE : Hid (R = .tuple #[.string ⟨#[]⟩, .int .i64 0, .bool false]) := Lib.hid (by rw [← HR.out, hq]; rfl)
            clear hx hd hq h34 h92 hk2
            go_wp2_with fail
            go_returns
            exact ⟨by rw [HE.out]; rfl, hbr⟩
        · rw [if_neg h92] at hx
          obtain ⟨y, hy0⟩ : ∃ y, s[k] = y := ⟨_, rfl⟩
          rw [hy0] at hx hd
          obtain ⟨k3, hk3⟩ : ∃ k3, k + 1 = k3 := ⟨_, rfl⟩
          rw [hk3] at hx hd
          have hq := HQ.out
          rw [hx] at hq
          have HQ2 : Hid (qS (s.data.toList.drop 1) = (qS (s.data.toList.drop k3)).map fun p => ((o ++ [y]) ++ p.1, p.2 + (k3 - 1))) := by
            refine Lib.hid ?_
            rw [hq]
            cases qS (s.data.toList.drop k3) with
            | none => rfl
            | some p =>
              simp only [Option.map_some, List.append_assoc, List.singleton_append]
              congr 2
              omega
          have x1 : ¬ ((s[k].toNat : Nat) : Int) = 92 := fun e => h92 (UInt8.toNat_inj.1 (by rw [show (92 : UInt8).toNat = 92 from rfl]; omega))
          have HC := Lib.hid (cells_snoc o y)
          have HWr := Lib.hid (fun W hh hl hw => byte_any w.heap.size w.heap.size (Lib.byteCells o) ((s[k].toNat : Nat) : Int) W hh hl hw)
          have hob : (Lib.byteCells o).length + 1 ≤ 1000000000 := by rw [Lib.byteCells_length]; omega
          have Hob := Lib.hid hob
          have Hy0 := Lib.hid hy0
          clear hx hd hq h34 h92 hob hy0
          go_wp2_with fail
          refine (HWr.out _ HB.out Hob.out (by omega)).mono ?_
          rintro _ w2 ⟨rfl, hB2, hb2⟩
          rw [Hy0.out, HC.out] at hB2
          go_wp2_with fail
          go_roundw
          case rel => exact ⟨k3, o ++ [y], by omega, by omega, by rw [← hk3]; go_num, by rw [List.length_append, List.length_singleton]; omega, HQ2, .inr hB2, hbr.trans hb2⟩
          case measure => simp [intOf]; omega
    · obtain rfl : k = s.size := by omega
      have hq := HQ.out
      rw [drop_end s _ (Nat.le_refl _)] at hq
      have HE : Hid (R = .tuple #[.string ⟨#[]⟩, .int .i64 0, .bool false]) := Lib.hid (by rw [← HR.out, hq]; rfl)
      clear hq
      go_wp2_with fail
      go_returns
      exact ⟨by rw [HE.out]; rfl, hbr⟩
end Go.Proofs.YtkkeplmaphcblaaGreatDoor

namespace Go.Proofs.YtkkeplmaphcblaaGreatDoor
open Go.RowKit

/-- May a sign stand? -/
def mayB (r : Int) : Bool := decide (r = 9 ∨ r = 10 ∨ r = 13 ∨ 32 ≤ r ∧ r ≤ 55295 ∨ 57344 ≤ r ∧ r ≤ 65533 ∨ 65536 ≤ r ∧ r ≤ 1114111)
set_option maxHeartbeats 1000000 in
theorem sign_any (r : Int) (b : Bool) (hb : mayB r = b) (w : World) : Calls Tryz.prog 170 #[.int .i32 r] w fun e w' => e = .returned (.bool b) ∧ w = w' := by
  subst hb
  by_cases h1 : r = 9
  · subst h1
    go_enter Tryz.func170, Tryz.ntmps170
    go_wp2
    go_ret
    exact ⟨rfl, rfl⟩
  by_cases h2 : r = 10
  · subst h2
    go_enter Tryz.func170, Tryz.ntmps170
    go_wp2
    go_ret
    exact ⟨rfl, rfl⟩
  by_cases h3 : r = 13
  · subst h3
    go_enter Tryz.func170, Tryz.ntmps170
    go_wp2
    go_ret
    exact ⟨rfl, rfl⟩
  have e1 : (r == 9) = false := by simpa using h1
  have e2 : (r == 10) = false := by simpa using h2
  have e3 : (r == 13) = false := by simpa using h3
  have hm : mayB r = (decide (32 ≤ r ∧ r ≤ 55295) || decide (57344 ≤ r ∧ r ≤ 65533) || decide (65536 ≤ r ∧ r ≤ 1114111)) := by
    unfold mayB
    simp [h1, h2, h3, Bool.or_assoc]
  rw [hm]
  by_cases g1 : 32 ≤ r ∧ r ≤ 55295
  · rw [decide_eq_true g1]
    obtain ⟨g1, g2⟩ := g1
    clear hm h1 h2 h3
    go_enter Tryz.func170, Tryz.ntmps170
    go_wp2
    go_ret
    exact ⟨rfl, rfl⟩
  by_cases g2 : 57344 ≤ r ∧ r ≤ 65533
  · rw [decide_eq_false g1, decide_eq_true g2]
    obtain ⟨g2, g3⟩ := g2
    have g4 : ¬ r ≤ 55295 := by omega
    have g5 : 32 ≤ r := by omega
    clear hm h1 h2 h3 g1
    go_enter Tryz.func170, Tryz.ntmps170
    go_wp2
    go_ret
    exact ⟨rfl, rfl⟩
  by_cases g3 : 65536 ≤ r ∧ r ≤ 1114111
  · rw [decide_eq_false g1, decide_eq_false g2, decide_eq_true g3]
    obtain ⟨g6, g7⟩ := g3
    have g4 : ¬ r ≤ 55295 := by omega
    have g5 : 32 ≤ r := by omega
    have g8 : 57344 ≤ r := by omega
    have g9 : ¬ r ≤ 65533 := by omega
    clear hm h1 h2 h3 g1 g2
    go_enter Tryz.func170, Tryz.ntmps170
    go_wp2
    go_ret
    exact ⟨rfl, rfl⟩
  · rw [decide_eq_false g1, decide_eq_false g2, decide_eq_false g3]
    clear hm h1 h2 h3
    by_cases k1 : r < 32
    · have k2 : ¬ 32 ≤ r := by omega
      have k3 : ¬ 57344 ≤ r := by omega
      have k4 : ¬ 65536 ≤ r := by omega
      clear g1 g2 g3
      go_enter Tryz.func170, Tryz.ntmps170
      go_wp2
      go_ret
      exact ⟨rfl, rfl⟩
    · have k2 : 32 ≤ r := by omega
      have k3 : ¬ r ≤ 55295 := by omega
      by_cases k4 : r < 57344
      · have k5 : ¬ 57344 ≤ r := by omega
        have k6 : ¬ 65536 ≤ r := by omega
        clear g1 g2 g3
        go_enter Tryz.func170, Tryz.ntmps170
        go_wp2
        go_ret
        exact ⟨rfl, rfl⟩
      · have k5 : 57344 ≤ r := by omega
        have k6 : ¬ r ≤ 65533 := by omega
        by_cases k7 : r < 65536
        · have k8 : ¬ 65536 ≤ r := by omega
          clear g1 g2 g3
          go_enter Tryz.func170, Tryz.ntmps170
          go_wp2
          go_ret
          exact ⟨rfl, rfl⟩
        · have k8 : 65536 ≤ r := by omega
          have k9 : ¬ r ≤ 1114111 := by omega
          clear g1 g2 g3
          go_enter Tryz.func170, Tryz.ntmps170
          go_wp2
          go_ret
          exact ⟨rfl, rfl⟩

/-- Is the sign at a place bad? -/
def badAt (s : ByteArray) (p : Nat) : Bool := ((Utf8.decode s p).1 == 65533 && (Lib.decodeGo (s.extract p s.size)).2 == 1) || !mayB (Utf8.decode s p).1
def badF (s : ByteArray) : Nat → Nat → Int
  | 0, _ => -1
  | b + 1, p => if p < s.size then (if badAt s p then (p : Int) else badF s b (p + (Utf8.decode s p).2)) else -1
def goodS (s : ByteArray) : Bool := decide (badF s s.size 0 < 0)
theorem width_pos (s : ByteArray) (pos : Nat) (h : pos < s.size) : 1 ≤ (Utf8.decode s pos).2 := by
  by_cases ha : (s[pos]'h).toNat < 128
  · rw [decode_ascii s pos h ha]
    exact Nat.le_refl _
  · exact (decode_high s pos h (by omega)).2
theorem badF_end (s : ByteArray) (b p : Nat) (h : ¬ p < s.size) : badF s b p = -1 := by
  cases b with
  | zero => rfl
  | succ b => rw [badF, if_neg h]

abbrev U8T (w : World) : Prop := Lib.Utf8Tabs 2 3 w
theorem decode_lit (s : ByteArray) (w : World) (R K : Int) (hR : (Lib.decodeGo s).1 = R) (hK : (Lib.decodeGo s).2 = K) (hT : U8T w) :
    Calls Tryz.prog 146 #[.string s] w fun e w' => e = .returned (.tuple #[.int .i32 R, .int .i64 K]) ∧ Below w.heap.size w w' := by
  rw [← hR, ← hK]
  exact Tryz.utf8_DecodeRuneInString s w hT

theorem heap_lt {w : World} {g : Nat} {o : Obj} (h : w.heap[g]? = some o) : g < w.heap.size := (Array.getElem?_eq_some_iff.1 h).1

set_option maxHeartbeats 2000000 in
set_option maxRecDepth 100000 in
theorem bad_any (s : ByteArray) (w : World) (hT : U8T w) : Calls Tryz.prog 121 #[.string s] w fun e w' => e = .returned (.int .i64 (badF s s.size 0)) ∧ Below w.heap.size w w' := by
  have HT := Lib.hid (fun W (hb : Below w.heap.size w W) => Utf8Tabs_below hT hb)
  obtain ⟨R, hR⟩ : ∃ R, badF s s.size 0 = R := ⟨_, rfl⟩
  rw [hR]
  have HR := Lib.hid hR
  clear hT hR
  go_enter Tryz.func121, Tryz.ntmps121
  go_wp2
  go_loopw [3, 4, 5, 6] (fun _ _ _ _ wr => ∃ (pos b : Nat), wr.heap[w.heap.size]? = some (.stringIter s pos) ∧ Below w.heap.size w wr ∧ Hid (badF s b pos = R) ∧ s.size ≤ pos + b) (fun _ _ _ _ wr => s.size - wr.iterPos w.heap.size)
  case atStart => exact ⟨0, s.size, by simp [World.iter_heap], by first | exact (Below.refl _ _).alloc (Nat.le_refl _) _ | exact ⟨rfl, rfl, rfl, by simp [World.iter], fun i hi => by simp [World.iter]; omega⟩, HR, by omega⟩
  case round =>
    obtain ⟨pos, b, hit, hbr, HF, hle⟩ := hrel
    have hit2 := Lib.hid hit
    by_cases hp : pos < s.size
    · have hnx : ∀ ty, (Instr.next (.pointer (some ⟨w.heap.size, 0, none⟩)) true ty).run Tryz.prog wr = _ := fun ty => Lib.run_next_any_at wr w.heap.size s pos ty hit hp
      have hwd := width_pos s pos hp
      obtain ⟨b', rfl⟩ : ∃ b', b = b' + 1 := ⟨b - 1, by omega⟩
      have hf := HF.out
      rw [badF, if_pos hp] at hf
      have hit3 := Lib.iterAt_heap wr w.heap.size s pos (pos + (Utf8.decode s pos).2) hit
      have hb3 := Lib.below_iterAt hbr (Nat.le_refl _) s (pos + (Utf8.decode s pos).2)
      unfold badAt at hf
      obtain ⟨r, hr⟩ : ∃ r : Nat, (Utf8.decode s pos).1 = r := ⟨_, rfl⟩
      obtain ⟨n, hn⟩ : ∃ n : Nat, (Utf8.decode s pos).2 = n := ⟨_, rfl⟩
      obtain ⟨q, hq⟩ : ∃ q : Nat, (Lib.decodeGo (s.extract pos s.size)).1 = q := ⟨_, rfl⟩
      obtain ⟨k, hk⟩ : ∃ k : Nat, (Lib.decodeGo (s.extract pos s.size)).2 = k := ⟨_, rfl⟩
      have HD := Lib.hid (fun W hT => decode_lit (s.extract pos s.size) W (q : Int) (k : Int) (by rw [hq]) (by rw [hk]) hT)
      rw [hr, hn] at hnx
      rw [hn] at hit3 hb3 hwd
      rw [hr, hn, hk] at hf
      have HS := Lib.hid (fun b hb W => sign_any (r : Int) b hb W)
      have H3 := Lib.hid (And.intro hit3 hb3)
      clear hit3 hb3 hr hn hq hk hit HF
      by_cases g1 : r = 65533 ∧ k = 1
      · have hf2 : (pos : Int) = R := by rw [← hf, g1.1, g1.2]; rfl
        obtain ⟨rfl, rfl⟩ := g1
        clear hf
        have Hf2 := Lib.hid hf2
        clear hf2
        go_wp2_with fail
        refine (HD.out _ (HT.out _ H3.out.2)).mono ?_
        rintro _ w2 ⟨rfl, hb2⟩
        go_wp2_with fail
        go_returns
        exact ⟨by rw [← Hf2.out]; rfl, H3.out.2.trans (hb2.mono (by have := H3.out.2.size; exact this))⟩
      · have hs0 : (r == 65533 && k == 1) = false := by
          rw [Bool.and_eq_false_iff]
          by_cases h : r = 65533
          · right; simpa using fun e => g1 ⟨h, e⟩
          · left; simpa using h
        rw [hs0, Bool.false_or] at hf
        cases hm : mayB (r : Int) with
        | false =>
          rw [hm] at hf
          have Hf2 := Lib.hid (show (pos : Int) = R from hf)
          have HM := Lib.hid hm
          clear hf hm
          by_cases h5 : r = 65533
          · subst h5
            have h6 : ¬ (k : Int) = 1 := fun e => g1 ⟨rfl, by omega⟩
            clear g1 hs0
            go_wp2_with fail
            refine (HD.out _ (HT.out _ H3.out.2)).mono ?_
            rintro _ w2 ⟨rfl, hb2⟩
            go_wp2_with fail
            refine (HS.out _ HM.out _).mono ?_
            rintro _ _ ⟨rfl, rfl⟩
            go_wp2_with fail
            go_returns
            exact ⟨by rw [← Hf2.out]; rfl, H3.out.2.trans (hb2.mono (by have := H3.out.2.size; exact this))⟩
          · have h6 : ¬ (r : Int) = 65533 := by omega
            clear g1 hs0 h5
            go_wp2_with fail
            refine (HD.out _ (HT.out _ H3.out.2)).mono ?_
            rintro _ w2 ⟨rfl, hb2⟩
            go_wp2_with fail
            refine (HS.out _ HM.out _).mono ?_
            rintro _ _ ⟨rfl, rfl⟩
            go_wp2_with fail
            go_returns
            exact ⟨by rw [← Hf2.out]; rfl, H3.out.2.trans (hb2.mono (by have := H3.out.2.size; exact this))⟩
        | true =>
          rw [hm] at hf
          have HF2 : Hid (badF s b' (pos + n) = R) := Lib.hid hf
          have HM := Lib.hid hm
          clear hf hm
          by_cases h5 : r = 65533
          · subst h5
            have h6 : ¬ (k : Int) = 1 := fun e => g1 ⟨rfl, by omega⟩
            clear g1 hs0
            go_wp2_with fail
            refine (HD.out _ (HT.out _ H3.out.2)).mono ?_
            rintro _ w2 ⟨rfl, hb2⟩
            go_wp2_with fail
            refine (HS.out _ HM.out _).mono ?_
            rintro _ _ ⟨rfl, rfl⟩
            have hlt3 := H3.out.2.size
            have hit4 : w2.heap[w.heap.size]? = some (.stringIter s (pos + n)) := (hb2.block w.heap.size (heap_lt H3.out.1)).trans H3.out.1
            have Hi4 := Lib.hid hit4
            have hb4 : Below w.heap.size w w2 := H3.out.2.trans (hb2.mono hlt3)
            have hpos : wr.iterPos w.heap.size = pos := by unfold World.iterPos; rw [hit2.out]
            have hpos2 : w2.iterPos w.heap.size = pos + n := by unfold World.iterPos; rw [Hi4.out]
            have HP := Lib.hid (And.intro hpos hpos2)
            clear hit4 hpos hpos2
            go_wp2_with fail
            go_roundw
            case rel => exact ⟨pos + n, b', Hi4.out, hb4, HF2, by omega⟩
            case measure => rw [HP.out.1, HP.out.2]; omega
          · have h6 : ¬ (r : Int) = 65533 := by omega
            clear g1 hs0 h5
            go_wp2_with fail
            refine (HD.out _ (HT.out _ H3.out.2)).mono ?_
            rintro _ w2 ⟨rfl, hb2⟩
            go_wp2_with fail
            refine (HS.out _ HM.out _).mono ?_
            rintro _ _ ⟨rfl, rfl⟩
            have hlt3 := H3.out.2.size
            have hit4 : w2.heap[w.heap.size]? = some (.stringIter s (pos + n)) := (hb2.block w.heap.size (heap_lt H3.out.1)).trans H3.out.1
            have Hi4 := Lib.hid hit4
            have hb4 : Below w.heap.size w w2 := H3.out.2.trans (hb2.mono hlt3)
            have hpos : wr.iterPos w.heap.size = pos := by unfold World.iterPos; rw [hit2.out]
            have hpos2 : w2.iterPos w.heap.size = pos + n := by unfold World.iterPos; rw [Hi4.out]
            have HP := Lib.hid (And.intro hpos hpos2)
            clear hit4 hpos hpos2
            go_wp2_with fail
            go_roundw
            case rel => exact ⟨pos + n, b', Hi4.out, hb4, HF2, by omega⟩
            case measure => rw [HP.out.1, HP.out.2]; omega
    · have hnx : ∀ ty, (Instr.next (.pointer (some ⟨w.heap.size, 0, none⟩)) true ty).run Tryz.prog wr = _ := fun ty => Lib.run_next_end_at wr w.heap.size s pos ty hit hp
      have hf := HF.out
      rw [badF_end s b pos hp] at hf
      subst hf
      clear HF hit
      go_wp2
      go_ret
      exact ⟨rfl, hbr⟩
theorem good_any (s : ByteArray) (b : Bool) (hb : goodS s = b) (w : World) (hT : U8T w) : Calls Tryz.prog 81 #[.string s] w fun e w' => e = .returned (.bool b) ∧ Below w.heap.size w w' := by
  have HB := Lib.hid (bad_any s w hT)
  unfold goodS at hb
  obtain ⟨R, hR⟩ : ∃ R, badF s s.size 0 = R := ⟨_, rfl⟩
  rw [hR] at HB hb
  have Hb := Lib.hid hb
  clear hT hR hb
  go_enter Tryz.func81, Tryz.ntmps81
  go_wp2_with fail
  refine HB.out.mono ?_
  rintro _ w2 ⟨rfl, hb2⟩
  go_wp2
  go_returns
  exact ⟨by rw [← Hb.out]; first | rfl | simp, hb2⟩
end Go.Proofs.YtkkeplmaphcblaaGreatDoor

namespace Go.Proofs.YtkkeplmaphcblaaGreatDoor
open Go.RowKit

theorem results_ctt {fn : Func} {p u v : Tmp} {ty : TypeId} (h : fn.results = #[.cell p ty, .tmp u, .tmp v]) (tmps : Array Value) (P : Program) (w : World) :
    (results fn tmps).run P w =
      ((asAddr (tmps.getD p undef)).run P w).andThen fun a w₁ => ((loadVar ty a).run P w₁).andThen fun x w₂ => .ok (.tuple #[x, tmps.getD u undef, tmps.getD v undef]) w₂ := by
  simp only [results, h]
  simp [Sem.run_bind, Result.andThen]
theorem ret_blk3 {P : Program} {fn : Func} {R : Ending → World → Prop} {a : Act} {w : World} {p u v : Tmp} {ty : TypeId} {g : Nat} {T : TypeId} {cs : Array Value} {d : TypeDesc} (h : fn.results = #[.cell p ty, .tmp u, .tmp v]) (hB : Blk w g T cs)
    (hp : a.tmps.getD p undef = .pointer (some ⟨g, 0, none⟩)) (hu : P.underlying ty = some d) (hd : (match d with | .struct _ | .array _ _ => true | _ => false) = true) (hi : (P.info? ty).map (·.size) = some cs.size)
    (hdf : a.defers = []) (hR : R (.returned (.tuple #[.agg cs, a.tmps.getD u undef, a.tmps.getD v undef])) w) : bodyPost P fn R .ret a w := by
  refine bodyPost_ret ?_ hdf hR
  rw [results_ctt h, hp]
  simp [asAddr, run_loadVar_row w g T ty cs (0, 0) d hB hu hd hi, Result.andThen]

def tokA (t : Tk) : Array Value := #[.int .i64 t.k, .int .i64 (t.a : Int), .string (bs t.t), .int .i64 t.n, .int .i64 t.s, .int .i64 t.m]
def tokV (t : Tk) : Value := .agg (tokA t)
/-- The worlds in which the library's variables stand as they began. -/
structure OKW (m : Int) (w : World) : Prop where
  hm : w.cell? ⟨1, 0, none⟩ = some (.int .i64 m)
  lt : 1 < w.heap.size
  u8 : U8T w
  tab : Lib.TabIs Tryz.prog w "internal/strconv.uint64pow10" .u64 Lib.pow10Tab
theorem OKW.step {m : Int} {w w' : World} (h : OKW m w) (hb : Below w.heap.size w w') : OKW m w' :=
  ⟨((bcell hb).1 _ _ h.lt).trans h.hm, Nat.lt_of_lt_of_le h.lt hb.size, Utf8Tabs_below h.u8 hb, Lib.tabBelow_of_tabIs h.tab _ hb⟩

/-- What is taken as given, at this program. -/
structure LxOK (x : Lx) (m : Int) : Prop where
  P : ∀ (s : ByteArray) (l : Bs), s.data.toList = l → l.length ≤ 4000000 → ∀ W, OKW m W → Calls Tryz.prog 201 #[.string s] W fun e w' => e = .returned (.tuple #[.agg #[.int .i64 (x.P l).n, .int .i64 (x.P l).s], .int .i64 (x.P l).e]) ∧ Below W.heap.size W w'
  D : ∀ (s : ByteArray) (l : Bs), s.data.toList = l → l.length ≤ 4000000 → ∀ W, OKW m W → Calls Tryz.prog 165 #[.string s] W fun e w' => e = .returned (.tuple #[.int .i64 (x.D l).1, .int .i64 (x.D l).2]) ∧ Below W.heap.size W w'
  G : ∀ (s : ByteArray) (l : Bs), s.data.toList = l → l.length ≤ 4000000 → ∀ W, OKW m W → Calls Tryz.prog 81 #[.string s] W fun e w' => e = .returned (.bool (x.G l)) ∧ Below W.heap.size W w'

theorem ext_drop (s : ByteArray) (k : Nat) : (s.extract k s.size).data.toList = s.data.toList.drop k := Lib.extract_to_end s k
theorem ext_take (s : ByteArray) (k : Nat) : (s.extract 0 k).data.toList = s.data.toList.take k := Lib.extract_from_zero s k
theorem ext_size (s : ByteArray) (k : Nat) : (s.extract k s.size).size = s.size - k := by
  rw [← size_list, ext_drop, List.length_drop, size_list]
theorem ext_size0 (s : ByteArray) (k : Nat) (h : k ≤ s.size) : (s.extract 0 k).size = k := by
  rw [← size_list, ext_take, List.length_take, size_list]
  omega
def figsB : ByteArray := ⟨#[48, 49, 50, 51, 52, 53, 54, 55, 56, 57]⟩
theorem run_figs (s : ByteArray) (k : Nat) (hs : s.size ≤ 4000000) (hk : runS figs s.data.toList = k) (w : World) :
    Calls Tryz.prog 116 #[.string s, .string ⟨#[48, 49, 50, 51, 52, 53, 54, 55, 56, 57]⟩] w fun e w' => e = .returned (.int .i64 (k : Int)) ∧ Below w.heap.size w w' :=
  run_any s ⟨#[48, 49, 50, 51, 52, 53, 54, 55, 56, 57]⟩ k (by omega) (by decide) (by decide) hk w
theorem all_bytes {p : UInt8 → Prop} (h : ∀ n : Fin 256, p (UInt8.ofNat n.val)) (c : UInt8) : p c := by
  have := h ⟨c.toNat, c.toNat_lt⟩
  rwa [UInt8.ofNat_toNat] at this
theorem indexByte_figs (c : UInt8) : decide (0 ≤ Lib.indexByte figs c) = figs.contains c := all_bytes (p := fun c => decide (0 ≤ Lib.indexByte figs c) = figs.contains c) (by decide +kernel) c
theorem indexByte_lets (c : UInt8) : decide (0 ≤ Lib.indexByte lets c) = lets.contains c := all_bytes (p := fun c => decide (0 ≤ Lib.indexByte lets c) = lets.contains c) (by decide +kernel) c
/-- strings.Contains of the figures, at a text of one byte. -/
theorem contains_figs (t : ByteArray) (c : UInt8) (b : Bool) (ht : t.data.toList = [c]) (hb : figs.contains c = b) (w : World) :
    Calls Tryz.prog 200 #[.string ⟨#[48, 49, 50, 51, 52, 53, 54, 55, 56, 57]⟩, .string t] w fun e w' => e = .returned (.bool b) ∧ w = w' := by
  have e : t = ⟨#[c]⟩ := by
    apply ByteArray.ext
    apply Array.toList_inj.1
    rw [ht]
  rw [e, ← hb, ← indexByte_figs]
  refine (Tryz.strings_Contains_one ⟨#[48, 49, 50, 51, 52, 53, 54, 55, 56, 57]⟩ c w).mono ?_
  rintro _ w' ⟨rfl, rfl⟩
  exact ⟨rfl, rfl⟩

theorem drop_two {s : ByteArray} {c d : UInt8} {r : Bs} (h : s.data.toList = c :: d :: r) : (s.extract 1 2).data.toList = [d] := by
  rw [ByteArray.data_extract, Array.toList_extract, h]
  rfl
theorem head_of {s : ByteArray} {c : UInt8} {r : Bs} (h : s.data.toList = c :: r) (h0 : 0 < s.size) : s[0] = c := by
  have := byte_drop s 0 h0
  rw [List.drop_zero, h] at this
  exact (List.cons.inj this).1.symm

set_option maxHeartbeats 4000000 in
set_option maxRecDepth 100000 in
theorem number_any (x : Lx) (m : Int) (H : LxOK x m) (s : ByteArray) (l : Bs) (hl : s.data.toList = l) (hs : s.size ≤ 4000000) (w : World) (hw : OKW m w) :
    Calls Tryz.prog 163 #[.string s] w fun e w' => e = .returned (.tuple #[tokV (numS x l).t, .int .i64 ((numS x l).n : Int), .int .i64 (numS x l).e]) ∧ Below w.heap.size w w' := by
  have hll : l.length = s.size := by rw [← hl, size_list]
  obtain ⟨k, hk⟩ : ∃ k, runS figs l = k := ⟨_, rfl⟩
  have hkl : k ≤ s.size := by rw [← hk, ← hll]; exact runS_le _ _
  have H1 := Lib.hid (fun W => run_figs s k hs (by rw [hl, hk]) W)
  obtain ⟨r, hr⟩ : ∃ r, s.extract k s.size = r := ⟨_, rfl⟩
  have hrl : r.data.toList = l.drop k := by rw [← hr, ext_drop, hl]
  have hrs : r.size = s.size - k := by rw [← hr, ext_size]
  have HW := Lib.hid (fun W (hb : Below w.heap.size w W) => hw.step hb)
  obtain ⟨N, hN⟩ : ∃ N, numLen l = N := ⟨_, rfl⟩
  have hNl : N ≤ s.size := by rw [← hN, ← hll]; exact numLen_le _
  obtain ⟨R, hR⟩ : ∃ R, x.P (l.take N) = R := ⟨_, rfl⟩
  obtain ⟨p, hp⟩ : ∃ p, s.extract 0 N = p := ⟨_, rfl⟩
  have hP := fun W hW => H.P p (l.take N) (by rw [← hp, ext_take, hl]) (by rw [List.length_take]; omega) W hW
  rw [hR] at hP
  have HP := Lib.hid hP
  have HE : Hid (tokV (numS x l).t = .agg #[.int .i64 1, .int .i64 0, .string ⟨#[]⟩, .int .i64 R.n, .int .i64 R.s, .int .i64 0] ∧ (numS x l).n = N ∧ (numS x l).e = R.e) := by
    refine Lib.hid ?_
    unfold numS
    simp only [hN, hR]
    exact ⟨rfl, trivial, trivial⟩
  have hb1 := Blk.new w 149 #[.int .i64 0, .int .i64 0, .string ⟨#[]⟩, .int .i64 0, .int .i64 0, .int .i64 0]
  have hNd := hN
  unfold numLen at hNd
  rw [hk] at hNd
  rw [HE.out.1, HE.out.2.1, HE.out.2.2]
  -- WAYS
  by_cases h1 : 1 < r.size
  · obtain ⟨c, d, q, hq⟩ : ∃ c d q, r.data.toList = c :: d :: q := by
      have h2 : 1 < r.data.toList.length := by rw [size_list]; exact h1
      match r.data.toList, h2 with
      | c :: d :: q, _ => exact ⟨c, d, q, rfl⟩
    have h1i : (1 : Int) < (r.size : Int) := by omega
    have hr0 : 0 < r.size := by omega
    have h0 : r[0]'hr0 = c := head_of hq hr0
    have hv0 : (((r[0]'hr0).toNat : Nat) : Int) = ((c.toNat : Nat) : Int) := by rw [h0]
    rw [← hrl, hq] at hNd
    by_cases hc : c = 46
    · have hc0 : ((c.toNat : Nat) : Int) = 46 := by rw [hc]; rfl
      rw [hc0] at hv0
      obtain ⟨b, hb⟩ : ∃ b, figs.contains d = b := ⟨_, rfl⟩
      have hdt : dotted (c :: d :: q) = b := by rw [hc, ← hb]; rfl
      rw [hdt] at hNd
      obtain ⟨t, ht⟩ : ∃ t, r.extract 1 2 = t := ⟨_, rfl⟩
      have htl : t.data.toList = [d] := by rw [← ht]; exact drop_two hq
      have HC := Lib.hid (fun W => contains_figs t d b htl hb W)
      have h2i : (2 : Int) ≤ (r.size : Int) := by omega
      cases b with
      | true =>
        rw [if_pos rfl] at hNd
        obtain ⟨r2, hr2⟩ : ∃ r2, r.extract 1 r.size = r2 := ⟨_, rfl⟩
        have hr2l : r2.data.toList = l.drop (k + 1) := by rw [← hr2, ext_drop, hrl, List.drop_drop]
        obtain ⟨j, hj⟩ : ∃ j, runS figs (l.drop (k + 1)) = j := ⟨_, rfl⟩
        rw [hj] at hNd
        have H2 := Lib.hid (fun W => run_figs r2 j (by rw [← hr2, ext_size]; omega) (by rw [hr2l, hj]) W)
        have kj : IntKind.i64.wrap (1 + (j : Int)) = 1 + (j : Int) := IntWalk.i64_in _ (by omega)
        have kN : (k : Int) + (1 + (j : Int)) = (N : Int) := by omega
        have kN2 : IntKind.i64.wrap (N : Int) = (N : Int) := IntWalk.i64_in _ (by omega)
        have hNi : (N : Int) ≤ (s.size : Int) := by omega
        clear hNd hj hr2l htl hb hdt hc hc0 hq h0 hrl hrs hk hN hR hP hl
        go_enter Tryz.func163, Tryz.ntmps163
        go_wp2_with fail
        refine (H1.out _).mono ?_
        rintro _ w1 ⟨rfl, hw1⟩
        replace hb1 := hb1.step hw1
        go_wp2_with fail
        refine (HC.out _).mono ?_
        rintro _ _ ⟨rfl, rfl⟩
        go_wp2_with fail
        refine (H2.out _).mono ?_
        rintro _ w2 ⟨rfl, hw2⟩
        replace hb1 := hb1.step hw2
        go_wp2_with fail
        refine (HP.out _ (HW.out _ (by (repeat' (first | (with_reducible exact Below.refl _ _) | (with_reducible assumption) | (with_reducible refine balloc ?_ _) | (with_reducible refine Below.drew ?_) | (with_reducible refine bset ?_ ?_ _) | (with_reducible refine bstep ?_ (by with_reducible assumption)) | (with_reducible refine bturn ?_ (by with_reducible assumption) ?_) | go_size))))).mono ?_
        rintro _ w9 ⟨rfl, hb9⟩
        replace hb1 := (hb1.step hb9).alloc (.cells #[.int .i64 R.n, .int .i64 R.s] 23)
        go_wp2_with (first | (refine wpList_store_blk hb1 rfl _ _ _ (by rfl) _ (by rfl) (by rfl) (by (repeat (first | (with_reducible exact hb1) | (with_reducible refine Blk.alloc ?_ _) | (with_reducible refine Blk.drew ?_) | (with_reducible refine Blk.far ?_ (by first | (simp; done) | (simp; omega)) _) | (with_reducible refine Blk.turn ?_ (by with_reducible assumption) (by omega))))) (by rfl) (by kernel_rfl) (by simp [Value.oneCell']) ?_; intro wt hb1n ht))
        refine ret_blk3 rfl hb1n rfl Tryz.underlying149 rfl (by kernel_rfl) rfl ?_
        exact ⟨rfl, by (repeat' (first | (with_reducible exact Below.refl _ _) | (with_reducible assumption) | (with_reducible refine balloc ?_ _) | (with_reducible refine Below.drew ?_) | (with_reducible refine bset ?_ ?_ _) | (with_reducible refine bstep ?_ (by with_reducible assumption)) | (with_reducible refine bturn ?_ (by with_reducible assumption) ?_) | go_size))⟩
      | false =>
        rw [if_neg (by decide)] at hNd
        subst hNd
        clear htl hb hdt hc hc0 hq h0 hrl hrs hk hN hR hP hl
        go_enter Tryz.func163, Tryz.ntmps163
        go_wp2_with fail
        refine (H1.out _).mono ?_
        rintro _ w1 ⟨rfl, hw1⟩
        replace hb1 := hb1.step hw1
        go_wp2_with fail
        refine (HC.out _).mono ?_
        rintro _ _ ⟨rfl, rfl⟩
        go_wp2_with fail
        refine (HP.out _ (HW.out _ (by (repeat' (first | (with_reducible exact Below.refl _ _) | (with_reducible assumption) | (with_reducible refine balloc ?_ _) | (with_reducible refine Below.drew ?_) | (with_reducible refine bset ?_ ?_ _) | (with_reducible refine bstep ?_ (by with_reducible assumption)) | (with_reducible refine bturn ?_ (by with_reducible assumption) ?_) | go_size))))).mono ?_
        rintro _ w9 ⟨rfl, hb9⟩
        replace hb1 := (hb1.step hb9).alloc (.cells #[.int .i64 R.n, .int .i64 R.s] 23)
        go_wp2_with (first | (refine wpList_store_blk hb1 rfl _ _ _ (by rfl) _ (by rfl) (by rfl) (by (repeat (first | (with_reducible exact hb1) | (with_reducible refine Blk.alloc ?_ _) | (with_reducible refine Blk.drew ?_) | (with_reducible refine Blk.far ?_ (by first | (simp; done) | (simp; omega)) _) | (with_reducible refine Blk.turn ?_ (by with_reducible assumption) (by omega))))) (by rfl) (by kernel_rfl) (by simp [Value.oneCell']) ?_; intro wt hb1n ht))
        refine ret_blk3 rfl hb1n rfl Tryz.underlying149 rfl (by kernel_rfl) rfl ?_
        exact ⟨rfl, by (repeat' (first | (with_reducible exact Below.refl _ _) | (with_reducible assumption) | (with_reducible refine balloc ?_ _) | (with_reducible refine Below.drew ?_) | (with_reducible refine bset ?_ ?_ _) | (with_reducible refine bstep ?_ (by with_reducible assumption)) | (with_reducible refine bturn ?_ (by with_reducible assumption) ?_) | go_size))⟩
    · have hdt : dotted (c :: d :: q) = false := by simp [dotted, hc]
      rw [hdt, if_neg (by decide)] at hNd
      subst hNd
      have hc0 : ¬ ((c.toNat : Nat) : Int) = 46 := fun e => hc (UInt8.toNat_inj.1 (by rw [show (46 : UInt8).toNat = 46 from rfl]; omega))
      rw [← hv0] at hc0
      clear hdt hc hq h0 hrl hrs hk hN hR hP hl hv0
      go_enter Tryz.func163, Tryz.ntmps163
      go_wp2_with fail
      refine (H1.out _).mono ?_
      rintro _ w1 ⟨rfl, hw1⟩
      replace hb1 := hb1.step hw1
      go_wp2_with fail
      refine (HP.out _ (HW.out _ (by (repeat' (first | (with_reducible exact Below.refl _ _) | (with_reducible assumption) | (with_reducible refine balloc ?_ _) | (with_reducible refine Below.drew ?_) | (with_reducible refine bset ?_ ?_ _) | (with_reducible refine bstep ?_ (by with_reducible assumption)) | (with_reducible refine bturn ?_ (by with_reducible assumption) ?_) | go_size))))).mono ?_
      rintro _ w9 ⟨rfl, hb9⟩
      replace hb1 := (hb1.step hb9).alloc (.cells #[.int .i64 R.n, .int .i64 R.s] 23)
      go_wp2_with (first | (refine wpList_store_blk hb1 rfl _ _ _ (by rfl) _ (by rfl) (by rfl) (by (repeat (first | (with_reducible exact hb1) | (with_reducible refine Blk.alloc ?_ _) | (with_reducible refine Blk.drew ?_) | (with_reducible refine Blk.far ?_ (by first | (simp; done) | (simp; omega)) _) | (with_reducible refine Blk.turn ?_ (by with_reducible assumption) (by omega))))) (by rfl) (by kernel_rfl) (by simp [Value.oneCell']) ?_; intro wt hb1n ht))
      refine ret_blk3 rfl hb1n rfl Tryz.underlying149 rfl (by kernel_rfl) rfl ?_
      exact ⟨rfl, by (repeat' (first | (with_reducible exact Below.refl _ _) | (with_reducible assumption) | (with_reducible refine balloc ?_ _) | (with_reducible refine Below.drew ?_) | (with_reducible refine bset ?_ ?_ _) | (with_reducible refine bstep ?_ (by with_reducible assumption)) | (with_reducible refine bturn ?_ (by with_reducible assumption) ?_) | go_size))⟩
  · have hdt : dotted (l.drop k) = false := by
      cases hb : dotted (l.drop k) with
      | false => rfl
      | true =>
        have := dotted_len hb
        rw [← hrl, size_list] at this
        omega
    rw [hdt, if_neg (by decide)] at hNd
    subst hNd
    have h1i : ¬ (1 : Int) < (r.size : Int) := by omega
    clear hdt hrl hrs hk hN hR hP hl
    go_enter Tryz.func163, Tryz.ntmps163
    go_wp2_with fail
    refine (H1.out _).mono ?_
    rintro _ w1 ⟨rfl, hw1⟩
    replace hb1 := hb1.step hw1
    go_wp2_with fail
    refine (HP.out _ (HW.out _ (by (repeat' (first | (with_reducible exact Below.refl _ _) | (with_reducible assumption) | (with_reducible refine balloc ?_ _) | (with_reducible refine Below.drew ?_) | (with_reducible refine bset ?_ ?_ _) | (with_reducible refine bstep ?_ (by with_reducible assumption)) | (with_reducible refine bturn ?_ (by with_reducible assumption) ?_) | go_size))))).mono ?_
    rintro _ w9 ⟨rfl, hb9⟩
    replace hb1 := (hb1.step hb9).alloc (.cells #[.int .i64 R.n, .int .i64 R.s] 23)
    go_wp2_with (first | (refine wpList_store_blk hb1 rfl _ _ _ (by rfl) _ (by rfl) (by rfl) (by (repeat (first | (with_reducible exact hb1) | (with_reducible refine Blk.alloc ?_ _) | (with_reducible refine Blk.drew ?_) | (with_reducible refine Blk.far ?_ (by first | (simp; done) | (simp; omega)) _) | (with_reducible refine Blk.turn ?_ (by with_reducible assumption) (by omega))))) (by rfl) (by kernel_rfl) (by simp [Value.oneCell']) ?_; intro wt hb1n ht))
    refine ret_blk3 rfl hb1n rfl Tryz.underlying149 rfl (by kernel_rfl) rfl ?_
    exact ⟨rfl, by (repeat' (first | (with_reducible exact Below.refl _ _) | (with_reducible assumption) | (with_reducible refine balloc ?_ _) | (with_reducible refine Below.drew ?_) | (with_reducible refine bset ?_ ?_ _) | (with_reducible refine bstep ?_ (by with_reducible assumption)) | (with_reducible refine bturn ?_ (by with_reducible assumption) ?_) | go_size))⟩
end Go.Proofs.YtkkeplmaphcblaaGreatDoor

namespace Go.Proofs.YtkkeplmaphcblaaGreatDoor
open Go.RowKit

set_option maxHeartbeats 4000000 in
set_option maxRecDepth 100000 in
theorem next_num (cv : Int) (s : ByteArray) (hs : s.size ≤ 4000000) (h0 : 0 < s.size) (hv : (((s[0]'h0).toNat : Nat) : Int) = cv) (w : World) (i1 : Int) (hi1 : 0 ≤ i1) (HI1 : Hid (∀ W, Calls Tryz.prog 162 #[.string ⟨#[48, 49, 50, 51, 52, 53, 54, 55, 56, 57]⟩, .int .u8 cv] W fun e w' => e = .returned (.int .i64 i1) ∧ W = w')) (k0 a0 n0 s0 m0 : Int) (t0 : ByteArray) (n ee : Int) (HN : Hid (∀ W, Below w.heap.size w W → Calls Tryz.prog 163 #[.string s] W fun e w' => e = .returned (.tuple #[.agg #[.int .i64 k0, .int .i64 a0, .string t0, .int .i64 n0, .int .i64 s0, .int .i64 m0], .int .i64 n, .int .i64 ee]) ∧ Below W.heap.size W w')) :
    Calls Tryz.prog 117 #[.string s] w fun e w' => e = .returned (.tuple #[.agg #[.int .i64 k0, .int .i64 a0, .string t0, .int .i64 n0, .int .i64 s0, .int .i64 m0], .int .i64 n, .int .i64 ee]) ∧ Below w.heap.size w w' := by
  have hb1 := Blk.new w 149 #[.int .i64 0, .int .i64 0, .string ⟨#[]⟩, .int .i64 0, .int .i64 0, .int .i64 0]
  go_enter Tryz.func117, Tryz.ntmps117
  go_wp2_with fail
  refine (HI1.out _).mono ?_
  rintro _ _ ⟨rfl, rfl⟩
  go_wp2_with fail
  refine (HN.out _ (by (repeat' (first | (with_reducible exact Below.refl _ _) | (with_reducible assumption) | (with_reducible refine balloc ?_ _) | (with_reducible refine Below.drew ?_) | (with_reducible refine bset ?_ ?_ _) | (with_reducible refine bstep ?_ (by with_reducible assumption)) | (with_reducible refine bturn ?_ (by with_reducible assumption) ?_) | go_size)))).mono ?_
  rintro _ w1 ⟨rfl, hw1⟩
  replace hb1 := hb1.step hw1
  go_wp2_with (first | (refine wpList_store_blk hb1 rfl _ _ _ (by rfl) _ (by rfl) (by rfl) (by (repeat (first | (with_reducible exact hb1) | (with_reducible refine Blk.alloc ?_ _) | (with_reducible refine Blk.drew ?_) | (with_reducible refine Blk.far ?_ (by first | (simp; done) | (simp; omega)) _) | (with_reducible refine Blk.turn ?_ (by with_reducible assumption) (by omega))))) (by rfl) (by kernel_rfl) (by simp [Value.oneCell']) ?_; intro wt hb1n ht))
  refine ret_blk3 rfl hb1n rfl Tryz.underlying149 rfl (by kernel_rfl) rfl ?_
  exact ⟨rfl, by (repeat' (first | (with_reducible exact Below.refl _ _) | (with_reducible assumption) | (with_reducible refine balloc ?_ _) | (with_reducible refine Below.drew ?_) | (with_reducible refine bset ?_ ?_ _) | (with_reducible refine bstep ?_ (by with_reducible assumption)) | (with_reducible refine bturn ?_ (by with_reducible assumption) ?_) | go_size))⟩

set_option maxHeartbeats 4000000 in
set_option maxRecDepth 100000 in
theorem next_str_none (s : ByteArray) (hs : s.size ≤ 4000000) (h0 : 0 < s.size) (hv : (((s[0]'h0).toNat : Nat) : Int) = 34) (w : World) (i1 : Int) (hi1 : ¬ 0 ≤ i1) (HI1 : Hid (∀ W, Calls Tryz.prog 162 #[.string ⟨#[48, 49, 50, 51, 52, 53, 54, 55, 56, 57]⟩, .int .u8 34] W fun e w' => e = .returned (.int .i64 i1) ∧ W = w')) (HQ : Hid (∀ W, Calls Tryz.prog 164 #[.string s] W fun e w' => e = .returned (.tuple #[.string ⟨#[]⟩, .int .i64 0, .bool false]) ∧ Below W.heap.size W w')) :
    Calls Tryz.prog 117 #[.string s] w fun e w' => e = .returned (.tuple #[.agg #[.int .i64 0, .int .i64 0, .string ⟨#[]⟩, .int .i64 0, .int .i64 0, .int .i64 0], .int .i64 0, .int .i64 5]) ∧ Below w.heap.size w w' := by
  have hb1 := Blk.new w 149 #[.int .i64 0, .int .i64 0, .string ⟨#[]⟩, .int .i64 0, .int .i64 0, .int .i64 0]
  go_enter Tryz.func117, Tryz.ntmps117
  go_wp2_with fail
  refine (HI1.out _).mono ?_
  rintro _ _ ⟨rfl, rfl⟩
  go_wp2_with fail
  refine (HQ.out _ ).mono ?_
  rintro _ w1 ⟨rfl, hw1⟩
  replace hb1 := hb1.step hw1
  go_wp2_with (first | (refine wpList_store_blk hb1 rfl _ _ _ (by rfl) _ (by rfl) (by rfl) (by (repeat (first | (with_reducible exact hb1) | (with_reducible refine Blk.alloc ?_ _) | (with_reducible refine Blk.drew ?_) | (with_reducible refine Blk.far ?_ (by first | (simp; done) | (simp; omega)) _) | (with_reducible refine Blk.turn ?_ (by with_reducible assumption) (by omega))))) (by rfl) (by kernel_rfl) (by simp [Value.oneCell']) ?_; intro wt hb1n ht))
  refine ret_blk3 rfl hb1n rfl Tryz.underlying149 rfl (by kernel_rfl) rfl ?_
  exact ⟨rfl, by (repeat' (first | (with_reducible exact Below.refl _ _) | (with_reducible assumption) | (with_reducible refine balloc ?_ _) | (with_reducible refine Below.drew ?_) | (with_reducible refine bset ?_ ?_ _) | (with_reducible refine bstep ?_ (by with_reducible assumption)) | (with_reducible refine bturn ?_ (by with_reducible assumption) ?_) | go_size))⟩

set_option maxHeartbeats 4000000 in
set_option maxRecDepth 100000 in
theorem next_str_long (s : ByteArray) (hs : s.size ≤ 4000000) (h0 : 0 < s.size) (hv : (((s[0]'h0).toNat : Nat) : Int) = 34) (w : World) (i1 : Int) (hi1 : ¬ 0 ≤ i1) (HI1 : Hid (∀ W, Calls Tryz.prog 162 #[.string ⟨#[48, 49, 50, 51, 52, 53, 54, 55, 56, 57]⟩, .int .u8 34] W fun e w' => e = .returned (.int .i64 i1) ∧ W = w')) (q : ByteArray) (n : Int) (hq : (256 : Int) < (q.size : Int)) (HQ : Hid (∀ W, Calls Tryz.prog 164 #[.string s] W fun e w' => e = .returned (.tuple #[.string q, .int .i64 n, .bool true]) ∧ Below W.heap.size W w')) :
    Calls Tryz.prog 117 #[.string s] w fun e w' => e = .returned (.tuple #[.agg #[.int .i64 0, .int .i64 0, .string ⟨#[]⟩, .int .i64 0, .int .i64 0, .int .i64 0], .int .i64 0, .int .i64 5]) ∧ Below w.heap.size w w' := by
  have hb1 := Blk.new w 149 #[.int .i64 0, .int .i64 0, .string ⟨#[]⟩, .int .i64 0, .int .i64 0, .int .i64 0]
  go_enter Tryz.func117, Tryz.ntmps117
  go_wp2_with fail
  refine (HI1.out _).mono ?_
  rintro _ _ ⟨rfl, rfl⟩
  go_wp2_with fail
  refine (HQ.out _ ).mono ?_
  rintro _ w1 ⟨rfl, hw1⟩
  replace hb1 := hb1.step hw1
  go_wp2_with (first | (refine wpList_store_blk hb1 rfl _ _ _ (by rfl) _ (by rfl) (by rfl) (by (repeat (first | (with_reducible exact hb1) | (with_reducible refine Blk.alloc ?_ _) | (with_reducible refine Blk.drew ?_) | (with_reducible refine Blk.far ?_ (by first | (simp; done) | (simp; omega)) _) | (with_reducible refine Blk.turn ?_ (by with_reducible assumption) (by omega))))) (by rfl) (by kernel_rfl) (by simp [Value.oneCell']) ?_; intro wt hb1n ht))
  refine ret_blk3 rfl hb1n rfl Tryz.underlying149 rfl (by kernel_rfl) rfl ?_
  exact ⟨rfl, by (repeat' (first | (with_reducible exact Below.refl _ _) | (with_reducible assumption) | (with_reducible refine balloc ?_ _) | (with_reducible refine Below.drew ?_) | (with_reducible refine bset ?_ ?_ _) | (with_reducible refine bstep ?_ (by with_reducible assumption)) | (with_reducible refine bturn ?_ (by with_reducible assumption) ?_) | go_size))⟩

set_option maxHeartbeats 4000000 in
set_option maxRecDepth 100000 in
theorem next_str_bad (s : ByteArray) (hs : s.size ≤ 4000000) (h0 : 0 < s.size) (hv : (((s[0]'h0).toNat : Nat) : Int) = 34) (w : World) (i1 : Int) (hi1 : ¬ 0 ≤ i1) (HI1 : Hid (∀ W, Calls Tryz.prog 162 #[.string ⟨#[48, 49, 50, 51, 52, 53, 54, 55, 56, 57]⟩, .int .u8 34] W fun e w' => e = .returned (.int .i64 i1) ∧ W = w')) (q : ByteArray) (n : Int) (hq : ¬ (256 : Int) < (q.size : Int)) (HQ : Hid (∀ W, Calls Tryz.prog 164 #[.string s] W fun e w' => e = .returned (.tuple #[.string q, .int .i64 n, .bool true]) ∧ Below W.heap.size W w')) (HG : Hid (∀ W, Below w.heap.size w W → Calls Tryz.prog 81 #[.string q] W fun e w' => e = .returned (.bool false) ∧ Below W.heap.size W w')) :
    Calls Tryz.prog 117 #[.string s] w fun e w' => e = .returned (.tuple #[.agg #[.int .i64 0, .int .i64 0, .string ⟨#[]⟩, .int .i64 0, .int .i64 0, .int .i64 0], .int .i64 0, .int .i64 5]) ∧ Below w.heap.size w w' := by
  have hb1 := Blk.new w 149 #[.int .i64 0, .int .i64 0, .string ⟨#[]⟩, .int .i64 0, .int .i64 0, .int .i64 0]
  go_enter Tryz.func117, Tryz.ntmps117
  go_wp2_with fail
  refine (HI1.out _).mono ?_
  rintro _ _ ⟨rfl, rfl⟩
  go_wp2_with fail
  refine (HQ.out _ ).mono ?_
  rintro _ w1 ⟨rfl, hw1⟩
  replace hb1 := hb1.step hw1
  go_wp2_with fail
  refine (HG.out _ (by (repeat' (first | (with_reducible exact Below.refl _ _) | (with_reducible assumption) | (with_reducible refine balloc ?_ _) | (with_reducible refine Below.drew ?_) | (with_reducible refine bset ?_ ?_ _) | (with_reducible refine bstep ?_ (by with_reducible assumption)) | (with_reducible refine bturn ?_ (by with_reducible assumption) ?_) | go_size)))).mono ?_
  rintro _ w2 ⟨rfl, hw2⟩
  replace hb1 := hb1.step hw2
  go_wp2_with (first | (refine wpList_store_blk hb1 rfl _ _ _ (by rfl) _ (by rfl) (by rfl) (by (repeat (first | (with_reducible exact hb1) | (with_reducible refine Blk.alloc ?_ _) | (with_reducible refine Blk.drew ?_) | (with_reducible refine Blk.far ?_ (by first | (simp; done) | (simp; omega)) _) | (with_reducible refine Blk.turn ?_ (by with_reducible assumption) (by omega))))) (by rfl) (by kernel_rfl) (by simp [Value.oneCell']) ?_; intro wt hb1n ht))
  refine ret_blk3 rfl hb1n rfl Tryz.underlying149 rfl (by kernel_rfl) rfl ?_
  exact ⟨rfl, by (repeat' (first | (with_reducible exact Below.refl _ _) | (with_reducible assumption) | (with_reducible refine balloc ?_ _) | (with_reducible refine Below.drew ?_) | (with_reducible refine bset ?_ ?_ _) | (with_reducible refine bstep ?_ (by with_reducible assumption)) | (with_reducible refine bturn ?_ (by with_reducible assumption) ?_) | go_size))⟩

set_option maxHeartbeats 4000000 in
set_option maxRecDepth 100000 in
theorem next_str_ok (s : ByteArray) (hs : s.size ≤ 4000000) (h0 : 0 < s.size) (hv : (((s[0]'h0).toNat : Nat) : Int) = 34) (w : World) (i1 : Int) (hi1 : ¬ 0 ≤ i1) (HI1 : Hid (∀ W, Calls Tryz.prog 162 #[.string ⟨#[48, 49, 50, 51, 52, 53, 54, 55, 56, 57]⟩, .int .u8 34] W fun e w' => e = .returned (.int .i64 i1) ∧ W = w')) (q : ByteArray) (n : Int) (hq : ¬ (256 : Int) < (q.size : Int)) (HQ : Hid (∀ W, Calls Tryz.prog 164 #[.string s] W fun e w' => e = .returned (.tuple #[.string q, .int .i64 n, .bool true]) ∧ Below W.heap.size W w')) (HG : Hid (∀ W, Below w.heap.size w W → Calls Tryz.prog 81 #[.string q] W fun e w' => e = .returned (.bool true) ∧ Below W.heap.size W w')) :
    Calls Tryz.prog 117 #[.string s] w fun e w' => e = .returned (.tuple #[.agg #[.int .i64 2, .int .i64 0, .string q, .int .i64 0, .int .i64 0, .int .i64 0], .int .i64 n, .int .i64 0]) ∧ Below w.heap.size w w' := by
  have hb1 := Blk.new w 149 #[.int .i64 0, .int .i64 0, .string ⟨#[]⟩, .int .i64 0, .int .i64 0, .int .i64 0]
  go_enter Tryz.func117, Tryz.ntmps117
  go_wp2_with fail
  refine (HI1.out _).mono ?_
  rintro _ _ ⟨rfl, rfl⟩
  go_wp2_with fail
  refine (HQ.out _ ).mono ?_
  rintro _ w1 ⟨rfl, hw1⟩
  replace hb1 := hb1.step hw1
  go_wp2_with fail
  refine (HG.out _ (by (repeat' (first | (with_reducible exact Below.refl _ _) | (with_reducible assumption) | (with_reducible refine balloc ?_ _) | (with_reducible refine Below.drew ?_) | (with_reducible refine bset ?_ ?_ _) | (with_reducible refine bstep ?_ (by with_reducible assumption)) | (with_reducible refine bturn ?_ (by with_reducible assumption) ?_) | go_size)))).mono ?_
  rintro _ w2 ⟨rfl, hw2⟩
  replace hb1 := hb1.step hw2
  go_wp2_with (first | (refine wpList_store_blk hb1 rfl _ _ _ (by rfl) _ (by rfl) (by rfl) (by (repeat (first | (with_reducible exact hb1) | (with_reducible refine Blk.alloc ?_ _) | (with_reducible refine Blk.drew ?_) | (with_reducible refine Blk.far ?_ (by first | (simp; done) | (simp; omega)) _) | (with_reducible refine Blk.turn ?_ (by with_reducible assumption) (by omega))))) (by rfl) (by kernel_rfl) (by simp [Value.oneCell']) ?_; intro wt hb1n ht))
  refine ret_blk3 rfl hb1n rfl Tryz.underlying149 rfl (by kernel_rfl) rfl ?_
  exact ⟨rfl, by (repeat' (first | (with_reducible exact Below.refl _ _) | (with_reducible assumption) | (with_reducible refine balloc ?_ _) | (with_reducible refine Below.drew ?_) | (with_reducible refine bset ?_ ?_ _) | (with_reducible refine bstep ?_ (by with_reducible assumption)) | (with_reducible refine bturn ?_ (by with_reducible assumption) ?_) | go_size))⟩

set_option maxHeartbeats 4000000 in
set_option maxRecDepth 100000 in
theorem next_at_short (s : ByteArray) (hs : s.size ≤ 4000000) (h0 : 0 < s.size) (hv : (((s[0]'h0).toNat : Nat) : Int) = 64) (w : World) (i1 : Int) (hi1 : ¬ 0 ≤ i1) (HI1 : Hid (∀ W, Calls Tryz.prog 162 #[.string ⟨#[48, 49, 50, 51, 52, 53, 54, 55, 56, 57]⟩, .int .u8 64] W fun e w' => e = .returned (.int .i64 i1) ∧ W = w')) (h1 : ¬ (1 : Int) < (s.size : Int)) (d de : Int) (HD : Hid (∀ W, Below w.heap.size w W → Calls Tryz.prog 165 #[.string ⟨#[]⟩] W fun e w' => e = .returned (.tuple #[.int .i64 d, .int .i64 de]) ∧ Below W.heap.size W w')) :
    Calls Tryz.prog 117 #[.string s] w fun e w' => e = .returned (.tuple #[.agg #[.int .i64 0, .int .i64 0, .string ⟨#[]⟩, .int .i64 0, .int .i64 0, .int .i64 0], .int .i64 0, .int .i64 5]) ∧ Below w.heap.size w w' := by
  have hb1 := Blk.new w 149 #[.int .i64 0, .int .i64 0, .string ⟨#[]⟩, .int .i64 0, .int .i64 0, .int .i64 0]
  go_enter Tryz.func117, Tryz.ntmps117
  go_wp2_with fail
  refine (HI1.out _).mono ?_
  rintro _ _ ⟨rfl, rfl⟩
  go_wp2_with fail
  refine (HD.out _ (by (repeat' (first | (with_reducible exact Below.refl _ _) | (with_reducible assumption) | (with_reducible refine balloc ?_ _) | (with_reducible refine Below.drew ?_) | (with_reducible refine bset ?_ ?_ _) | (with_reducible refine bstep ?_ (by with_reducible assumption)) | (with_reducible refine bturn ?_ (by with_reducible assumption) ?_) | go_size)))).mono ?_
  rintro _ w1 ⟨rfl, hw1⟩
  replace hb1 := hb1.step hw1
  go_wp2_with (first | (refine wpList_store_blk hb1 rfl _ _ _ (by rfl) _ (by rfl) (by rfl) (by (repeat (first | (with_reducible exact hb1) | (with_reducible refine Blk.alloc ?_ _) | (with_reducible refine Blk.drew ?_) | (with_reducible refine Blk.far ?_ (by first | (simp; done) | (simp; omega)) _) | (with_reducible refine Blk.turn ?_ (by with_reducible assumption) (by omega))))) (by rfl) (by kernel_rfl) (by simp [Value.oneCell']) ?_; intro wt hb1n ht))
  refine ret_blk3 rfl hb1n rfl Tryz.underlying149 rfl (by kernel_rfl) rfl ?_
  exact ⟨rfl, by (repeat' (first | (with_reducible exact Below.refl _ _) | (with_reducible assumption) | (with_reducible refine balloc ?_ _) | (with_reducible refine Below.drew ?_) | (with_reducible refine bset ?_ ?_ _) | (with_reducible refine bstep ?_ (by with_reducible assumption)) | (with_reducible refine bturn ?_ (by with_reducible assumption) ?_) | go_size))⟩

set_option maxHeartbeats 4000000 in
set_option maxRecDepth 100000 in
theorem next_at_other (s : ByteArray) (hs : s.size ≤ 4000000) (h0 : 0 < s.size) (hv : (((s[0]'h0).toNat : Nat) : Int) = 64) (w : World) (i1 : Int) (hi1 : ¬ 0 ≤ i1) (HI1 : Hid (∀ W, Calls Tryz.prog 162 #[.string ⟨#[48, 49, 50, 51, 52, 53, 54, 55, 56, 57]⟩, .int .u8 64] W fun e w' => e = .returned (.int .i64 i1) ∧ W = w')) (h1 : 1 < s.size) (h1i : (1 : Int) < (s.size : Int)) (h2 : ¬ (((s[1]'h1).toNat : Nat) : Int) = 34) (d de : Int) (HD : Hid (∀ W, Below w.heap.size w W → Calls Tryz.prog 165 #[.string ⟨#[]⟩] W fun e w' => e = .returned (.tuple #[.int .i64 d, .int .i64 de]) ∧ Below W.heap.size W w')) :
    Calls Tryz.prog 117 #[.string s] w fun e w' => e = .returned (.tuple #[.agg #[.int .i64 0, .int .i64 0, .string ⟨#[]⟩, .int .i64 0, .int .i64 0, .int .i64 0], .int .i64 0, .int .i64 5]) ∧ Below w.heap.size w w' := by
  have hb1 := Blk.new w 149 #[.int .i64 0, .int .i64 0, .string ⟨#[]⟩, .int .i64 0, .int .i64 0, .int .i64 0]
  go_enter Tryz.func117, Tryz.ntmps117
  go_wp2_with fail
  refine (HI1.out _).mono ?_
  rintro _ _ ⟨rfl, rfl⟩
  go_wp2_with fail
  refine (HD.out _ (by (repeat' (first | (with_reducible exact Below.refl _ _) | (with_reducible assumption) | (with_reducible refine balloc ?_ _) | (with_reducible refine Below.drew ?_) | (with_reducible refine bset ?_ ?_ _) | (with_reducible refine bstep ?_ (by with_reducible assumption)) | (with_reducible refine bturn ?_ (by with_reducible assumption) ?_) | go_size)))).mono ?_
  rintro _ w1 ⟨rfl, hw1⟩
  replace hb1 := hb1.step hw1
  go_wp2_with (first | (refine wpList_store_blk hb1 rfl _ _ _ (by rfl) _ (by rfl) (by rfl) (by (repeat (first | (with_reducible exact hb1) | (with_reducible refine Blk.alloc ?_ _) | (with_reducible refine Blk.drew ?_) | (with_reducible refine Blk.far ?_ (by first | (simp; done) | (simp; omega)) _) | (with_reducible refine Blk.turn ?_ (by with_reducible assumption) (by omega))))) (by rfl) (by kernel_rfl) (by simp [Value.oneCell']) ?_; intro wt hb1n ht))
  refine ret_blk3 rfl hb1n rfl Tryz.underlying149 rfl (by kernel_rfl) rfl ?_
  exact ⟨rfl, by (repeat' (first | (with_reducible exact Below.refl _ _) | (with_reducible assumption) | (with_reducible refine balloc ?_ _) | (with_reducible refine Below.drew ?_) | (with_reducible refine bset ?_ ?_ _) | (with_reducible refine bstep ?_ (by with_reducible assumption)) | (with_reducible refine bturn ?_ (by with_reducible assumption) ?_) | go_size))⟩

set_option maxHeartbeats 4000000 in
set_option maxRecDepth 100000 in
theorem next_at_none (s : ByteArray) (hs : s.size ≤ 4000000) (h0 : 0 < s.size) (hv : (((s[0]'h0).toNat : Nat) : Int) = 64) (w : World) (i1 : Int) (hi1 : ¬ 0 ≤ i1) (HI1 : Hid (∀ W, Calls Tryz.prog 162 #[.string ⟨#[48, 49, 50, 51, 52, 53, 54, 55, 56, 57]⟩, .int .u8 64] W fun e w' => e = .returned (.int .i64 i1) ∧ W = w')) (h1 : 1 < s.size) (h1i : (1 : Int) < (s.size : Int)) (h2 : (((s[1]'h1).toNat : Nat) : Int) = 34) (r : ByteArray) (hr : s.extract 1 s.size = r) (HQ : Hid (∀ W, Calls Tryz.prog 164 #[.string r] W fun e w' => e = .returned (.tuple #[.string ⟨#[]⟩, .int .i64 0, .bool false]) ∧ Below W.heap.size W w')) (d de : Int) (HD : Hid (∀ W, Below w.heap.size w W → Calls Tryz.prog 165 #[.string ⟨#[]⟩] W fun e w' => e = .returned (.tuple #[.int .i64 d, .int .i64 de]) ∧ Below W.heap.size W w')) :
    Calls Tryz.prog 117 #[.string s] w fun e w' => e = .returned (.tuple #[.agg #[.int .i64 0, .int .i64 0, .string ⟨#[]⟩, .int .i64 0, .int .i64 0, .int .i64 0], .int .i64 0, .int .i64 5]) ∧ Below w.heap.size w w' := by
  have hb1 := Blk.new w 149 #[.int .i64 0, .int .i64 0, .string ⟨#[]⟩, .int .i64 0, .int .i64 0, .int .i64 0]
  go_enter Tryz.func117, Tryz.ntmps117
  go_wp2_with fail
  refine (HI1.out _).mono ?_
  rintro _ _ ⟨rfl, rfl⟩
  go_wp2_with fail
  refine (HQ.out _ ).mono ?_
  rintro _ w1 ⟨rfl, hw1⟩
  replace hb1 := hb1.step hw1
  go_wp2_with fail
  refine (HD.out _ (by (repeat' (first | (with_reducible exact Below.refl _ _) | (with_reducible assumption) | (with_reducible refine balloc ?_ _) | (with_reducible refine Below.drew ?_) | (with_reducible refine bset ?_ ?_ _) | (with_reducible refine bstep ?_ (by with_reducible assumption)) | (with_reducible refine bturn ?_ (by with_reducible assumption) ?_) | go_size)))).mono ?_
  rintro _ w2 ⟨rfl, hw2⟩
  replace hb1 := hb1.step hw2
  go_wp2_with (first | (refine wpList_store_blk hb1 rfl _ _ _ (by rfl) _ (by rfl) (by rfl) (by (repeat (first | (with_reducible exact hb1) | (with_reducible refine Blk.alloc ?_ _) | (with_reducible refine Blk.drew ?_) | (with_reducible refine Blk.far ?_ (by first | (simp; done) | (simp; omega)) _) | (with_reducible refine Blk.turn ?_ (by with_reducible assumption) (by omega))))) (by rfl) (by kernel_rfl) (by simp [Value.oneCell']) ?_; intro wt hb1n ht))
  refine ret_blk3 rfl hb1n rfl Tryz.underlying149 rfl (by kernel_rfl) rfl ?_
  exact ⟨rfl, by (repeat' (first | (with_reducible exact Below.refl _ _) | (with_reducible assumption) | (with_reducible refine balloc ?_ _) | (with_reducible refine Below.drew ?_) | (with_reducible refine bset ?_ ?_ _) | (with_reducible refine bstep ?_ (by with_reducible assumption)) | (with_reducible refine bturn ?_ (by with_reducible assumption) ?_) | go_size))⟩

set_option maxHeartbeats 4000000 in
set_option maxRecDepth 100000 in
theorem next_at_bad (s : ByteArray) (hs : s.size ≤ 4000000) (h0 : 0 < s.size) (hv : (((s[0]'h0).toNat : Nat) : Int) = 64) (w : World) (i1 : Int) (hi1 : ¬ 0 ≤ i1) (HI1 : Hid (∀ W, Calls Tryz.prog 162 #[.string ⟨#[48, 49, 50, 51, 52, 53, 54, 55, 56, 57]⟩, .int .u8 64] W fun e w' => e = .returned (.int .i64 i1) ∧ W = w')) (h1 : 1 < s.size) (h1i : (1 : Int) < (s.size : Int)) (h2 : (((s[1]'h1).toNat : Nat) : Int) = 34) (r : ByteArray) (hr : s.extract 1 s.size = r)  (q : ByteArray) (n : Int) (HQ : Hid (∀ W, Calls Tryz.prog 164 #[.string r] W fun e w' => e = .returned (.tuple #[.string q, .int .i64 n, .bool true]) ∧ Below W.heap.size W w')) (d de : Int) (HD : Hid (∀ W, Below w.heap.size w W → Calls Tryz.prog 165 #[.string q] W fun e w' => e = .returned (.tuple #[.int .i64 d, .int .i64 de]) ∧ Below W.heap.size W w')) (he : ¬ de = 0) :
    Calls Tryz.prog 117 #[.string s] w fun e w' => e = .returned (.tuple #[.agg #[.int .i64 0, .int .i64 0, .string ⟨#[]⟩, .int .i64 0, .int .i64 0, .int .i64 0], .int .i64 0, .int .i64 5]) ∧ Below w.heap.size w w' := by
  have hb1 := Blk.new w 149 #[.int .i64 0, .int .i64 0, .string ⟨#[]⟩, .int .i64 0, .int .i64 0, .int .i64 0]
  go_enter Tryz.func117, Tryz.ntmps117
  go_wp2_with fail
  refine (HI1.out _).mono ?_
  rintro _ _ ⟨rfl, rfl⟩
  go_wp2_with fail
  refine (HQ.out _ ).mono ?_
  rintro _ w1 ⟨rfl, hw1⟩
  replace hb1 := hb1.step hw1
  go_wp2_with fail
  refine (HD.out _ (by (repeat' (first | (with_reducible exact Below.refl _ _) | (with_reducible assumption) | (with_reducible refine balloc ?_ _) | (with_reducible refine Below.drew ?_) | (with_reducible refine bset ?_ ?_ _) | (with_reducible refine bstep ?_ (by with_reducible assumption)) | (with_reducible refine bturn ?_ (by with_reducible assumption) ?_) | go_size)))).mono ?_
  rintro _ w2 ⟨rfl, hw2⟩
  replace hb1 := hb1.step hw2
  go_wp2_with (first | (refine wpList_store_blk hb1 rfl _ _ _ (by rfl) _ (by rfl) (by rfl) (by (repeat (first | (with_reducible exact hb1) | (with_reducible refine Blk.alloc ?_ _) | (with_reducible refine Blk.drew ?_) | (with_reducible refine Blk.far ?_ (by first | (simp; done) | (simp; omega)) _) | (with_reducible refine Blk.turn ?_ (by with_reducible assumption) (by omega))))) (by rfl) (by kernel_rfl) (by simp [Value.oneCell']) ?_; intro wt hb1n ht))
  refine ret_blk3 rfl hb1n rfl Tryz.underlying149 rfl (by kernel_rfl) rfl ?_
  exact ⟨rfl, by (repeat' (first | (with_reducible exact Below.refl _ _) | (with_reducible assumption) | (with_reducible refine balloc ?_ _) | (with_reducible refine Below.drew ?_) | (with_reducible refine bset ?_ ?_ _) | (with_reducible refine bstep ?_ (by with_reducible assumption)) | (with_reducible refine bturn ?_ (by with_reducible assumption) ?_) | go_size))⟩

set_option maxHeartbeats 4000000 in
set_option maxRecDepth 100000 in
theorem next_at_len (s : ByteArray) (hs : s.size ≤ 4000000) (h0 : 0 < s.size) (hv : (((s[0]'h0).toNat : Nat) : Int) = 64) (w : World) (i1 : Int) (hi1 : ¬ 0 ≤ i1) (HI1 : Hid (∀ W, Calls Tryz.prog 162 #[.string ⟨#[48, 49, 50, 51, 52, 53, 54, 55, 56, 57]⟩, .int .u8 64] W fun e w' => e = .returned (.int .i64 i1) ∧ W = w')) (h1 : 1 < s.size) (h1i : (1 : Int) < (s.size : Int)) (h2 : (((s[1]'h1).toNat : Nat) : Int) = 34) (r : ByteArray) (hr : s.extract 1 s.size = r)  (q : ByteArray) (n : Int) (HQ : Hid (∀ W, Calls Tryz.prog 164 #[.string r] W fun e w' => e = .returned (.tuple #[.string q, .int .i64 n, .bool true]) ∧ Below W.heap.size W w')) (d de : Int) (HD : Hid (∀ W, Below w.heap.size w W → Calls Tryz.prog 165 #[.string q] W fun e w' => e = .returned (.tuple #[.int .i64 d, .int .i64 de]) ∧ Below W.heap.size W w')) (he : de = 0) (hn : ¬ n = 12) :
    Calls Tryz.prog 117 #[.string s] w fun e w' => e = .returned (.tuple #[.agg #[.int .i64 0, .int .i64 0, .string ⟨#[]⟩, .int .i64 0, .int .i64 0, .int .i64 0], .int .i64 0, .int .i64 5]) ∧ Below w.heap.size w w' := by
  have hb1 := Blk.new w 149 #[.int .i64 0, .int .i64 0, .string ⟨#[]⟩, .int .i64 0, .int .i64 0, .int .i64 0]
  go_enter Tryz.func117, Tryz.ntmps117
  go_wp2_with fail
  refine (HI1.out _).mono ?_
  rintro _ _ ⟨rfl, rfl⟩
  go_wp2_with fail
  refine (HQ.out _ ).mono ?_
  rintro _ w1 ⟨rfl, hw1⟩
  replace hb1 := hb1.step hw1
  go_wp2_with fail
  refine (HD.out _ (by (repeat' (first | (with_reducible exact Below.refl _ _) | (with_reducible assumption) | (with_reducible refine balloc ?_ _) | (with_reducible refine Below.drew ?_) | (with_reducible refine bset ?_ ?_ _) | (with_reducible refine bstep ?_ (by with_reducible assumption)) | (with_reducible refine bturn ?_ (by with_reducible assumption) ?_) | go_size)))).mono ?_
  rintro _ w2 ⟨rfl, hw2⟩
  replace hb1 := hb1.step hw2
  go_wp2_with (first | (refine wpList_store_blk hb1 rfl _ _ _ (by rfl) _ (by rfl) (by rfl) (by (repeat (first | (with_reducible exact hb1) | (with_reducible refine Blk.alloc ?_ _) | (with_reducible refine Blk.drew ?_) | (with_reducible refine Blk.far ?_ (by first | (simp; done) | (simp; omega)) _) | (with_reducible refine Blk.turn ?_ (by with_reducible assumption) (by omega))))) (by rfl) (by kernel_rfl) (by simp [Value.oneCell']) ?_; intro wt hb1n ht))
  refine ret_blk3 rfl hb1n rfl Tryz.underlying149 rfl (by kernel_rfl) rfl ?_
  exact ⟨rfl, by (repeat' (first | (with_reducible exact Below.refl _ _) | (with_reducible assumption) | (with_reducible refine balloc ?_ _) | (with_reducible refine Below.drew ?_) | (with_reducible refine bset ?_ ?_ _) | (with_reducible refine bstep ?_ (by with_reducible assumption)) | (with_reducible refine bturn ?_ (by with_reducible assumption) ?_) | go_size))⟩

set_option maxHeartbeats 4000000 in
set_option maxRecDepth 100000 in
theorem next_at_ok (s : ByteArray) (hs : s.size ≤ 4000000) (h0 : 0 < s.size) (hv : (((s[0]'h0).toNat : Nat) : Int) = 64) (w : World) (i1 : Int) (hi1 : ¬ 0 ≤ i1) (HI1 : Hid (∀ W, Calls Tryz.prog 162 #[.string ⟨#[48, 49, 50, 51, 52, 53, 54, 55, 56, 57]⟩, .int .u8 64] W fun e w' => e = .returned (.int .i64 i1) ∧ W = w')) (h1 : 1 < s.size) (h1i : (1 : Int) < (s.size : Int)) (h2 : (((s[1]'h1).toNat : Nat) : Int) = 34) (r : ByteArray) (hr : s.extract 1 s.size = r)  (q : ByteArray) (n : Int) (HQ : Hid (∀ W, Calls Tryz.prog 164 #[.string r] W fun e w' => e = .returned (.tuple #[.string q, .int .i64 n, .bool true]) ∧ Below W.heap.size W w')) (d de : Int) (HD : Hid (∀ W, Below w.heap.size w W → Calls Tryz.prog 165 #[.string q] W fun e w' => e = .returned (.tuple #[.int .i64 d, .int .i64 de]) ∧ Below W.heap.size W w')) (he : de = 0) (hn : n = 12) :
    Calls Tryz.prog 117 #[.string s] w fun e w' => e = .returned (.tuple #[.agg #[.int .i64 3, .int .i64 0, .string ⟨#[]⟩, .int .i64 0, .int .i64 0, .int .i64 d], .int .i64 13, .int .i64 0]) ∧ Below w.heap.size w w' := by
  have hb1 := Blk.new w 149 #[.int .i64 0, .int .i64 0, .string ⟨#[]⟩, .int .i64 0, .int .i64 0, .int .i64 0]
  go_enter Tryz.func117, Tryz.ntmps117
  subst hn
  go_wp2_with fail
  refine (HI1.out _).mono ?_
  rintro _ _ ⟨rfl, rfl⟩
  go_wp2_with fail
  refine (HQ.out _ ).mono ?_
  rintro _ w1 ⟨rfl, hw1⟩
  replace hb1 := hb1.step hw1
  go_wp2_with fail
  refine (HD.out _ (by (repeat' (first | (with_reducible exact Below.refl _ _) | (with_reducible assumption) | (with_reducible refine balloc ?_ _) | (with_reducible refine Below.drew ?_) | (with_reducible refine bset ?_ ?_ _) | (with_reducible refine bstep ?_ (by with_reducible assumption)) | (with_reducible refine bturn ?_ (by with_reducible assumption) ?_) | go_size)))).mono ?_
  rintro _ w2 ⟨rfl, hw2⟩
  replace hb1 := hb1.step hw2
  go_wp2_with (first | (refine wpList_store_blk hb1 rfl _ _ _ (by rfl) _ (by rfl) (by rfl) (by (repeat (first | (with_reducible exact hb1) | (with_reducible refine Blk.alloc ?_ _) | (with_reducible refine Blk.drew ?_) | (with_reducible refine Blk.far ?_ (by first | (simp; done) | (simp; omega)) _) | (with_reducible refine Blk.turn ?_ (by with_reducible assumption) (by omega))))) (by rfl) (by kernel_rfl) (by simp [Value.oneCell']) ?_; intro wt hb1n ht))
  refine ret_blk3 rfl hb1n rfl Tryz.underlying149 rfl (by kernel_rfl) rfl ?_
  exact ⟨rfl, by (repeat' (first | (with_reducible exact Below.refl _ _) | (with_reducible assumption) | (with_reducible refine balloc ?_ _) | (with_reducible refine Below.drew ?_) | (with_reducible refine bset ?_ ?_ _) | (with_reducible refine bstep ?_ (by with_reducible assumption)) | (with_reducible refine bturn ?_ (by with_reducible assumption) ?_) | go_size))⟩

set_option maxHeartbeats 4000000 in
set_option maxRecDepth 100000 in
theorem next_name_long (cv : Int) (s : ByteArray) (hs : s.size ≤ 4000000) (h0 : 0 < s.size) (hv : (((s[0]'h0).toNat : Nat) : Int) = cv) (w : World) (c34 : ¬ cv = 34) (c64 : ¬ cv = 64) (i1 : Int) (hi1 : ¬ 0 ≤ i1) (HI1 : Hid (∀ W, Calls Tryz.prog 162 #[.string ⟨#[48, 49, 50, 51, 52, 53, 54, 55, 56, 57]⟩, .int .u8 cv] W fun e w' => e = .returned (.int .i64 i1) ∧ W = w')) (i2 : Int) (hi2 : 0 ≤ i2) (HI2 : Hid (∀ W, Calls Tryz.prog 162 #[.string ⟨#[97, 98, 99, 100, 101, 102, 103, 104, 105, 106, 107, 108, 109, 110, 111, 112, 113, 114, 115, 116, 117, 118, 119, 120, 121, 122, 65, 66, 67, 68, 69, 70, 71, 72, 73, 74, 75, 76, 77, 78, 79, 80, 81, 82, 83, 84, 85, 86, 87, 88, 89, 90, 95]⟩, .int .u8 cv] W fun e w' => e = .returned (.int .i64 i2) ∧ W = w')) (k : Nat) (HK : Hid (∀ W, Calls Tryz.prog 116 #[.string s, .string ⟨#[97, 98, 99, 100, 101, 102, 103, 104, 105, 106, 107, 108, 109, 110, 111, 112, 113, 114, 115, 116, 117, 118, 119, 120, 121, 122, 65, 66, 67, 68, 69, 70, 71, 72, 73, 74, 75, 76, 77, 78, 79, 80, 81, 82, 83, 84, 85, 86, 87, 88, 89, 90, 95, 48, 49, 50, 51, 52, 53, 54, 55, 56, 57]⟩] W fun e w' => e = .returned (.int .i64 (k : Int)) ∧ Below W.heap.size W w')) (hk : (32 : Int) < (k : Int)) :
    Calls Tryz.prog 117 #[.string s] w fun e w' => e = .returned (.tuple #[.agg #[.int .i64 0, .int .i64 0, .string ⟨#[]⟩, .int .i64 0, .int .i64 0, .int .i64 0], .int .i64 0, .int .i64 5]) ∧ Below w.heap.size w w' := by
  have hb1 := Blk.new w 149 #[.int .i64 0, .int .i64 0, .string ⟨#[]⟩, .int .i64 0, .int .i64 0, .int .i64 0]
  go_enter Tryz.func117, Tryz.ntmps117
  go_wp2_with fail
  refine (HI1.out _).mono ?_
  rintro _ _ ⟨rfl, rfl⟩
  go_wp2_with fail
  refine (HI2.out _).mono ?_
  rintro _ _ ⟨rfl, rfl⟩
  go_wp2_with fail
  refine (HK.out _ ).mono ?_
  rintro _ w1 ⟨rfl, hw1⟩
  replace hb1 := hb1.step hw1
  go_wp2_with (first | (refine wpList_store_blk hb1 rfl _ _ _ (by rfl) _ (by rfl) (by rfl) (by (repeat (first | (with_reducible exact hb1) | (with_reducible refine Blk.alloc ?_ _) | (with_reducible refine Blk.drew ?_) | (with_reducible refine Blk.far ?_ (by first | (simp; done) | (simp; omega)) _) | (with_reducible refine Blk.turn ?_ (by with_reducible assumption) (by omega))))) (by rfl) (by kernel_rfl) (by simp [Value.oneCell']) ?_; intro wt hb1n ht))
  refine ret_blk3 rfl hb1n rfl Tryz.underlying149 rfl (by kernel_rfl) rfl ?_
  exact ⟨rfl, by (repeat' (first | (with_reducible exact Below.refl _ _) | (with_reducible assumption) | (with_reducible refine balloc ?_ _) | (with_reducible refine Below.drew ?_) | (with_reducible refine bset ?_ ?_ _) | (with_reducible refine bstep ?_ (by with_reducible assumption)) | (with_reducible refine bturn ?_ (by with_reducible assumption) ?_) | go_size))⟩

set_option maxHeartbeats 4000000 in
set_option maxRecDepth 100000 in
theorem next_name_ok (cv : Int) (s : ByteArray) (hs : s.size ≤ 4000000) (h0 : 0 < s.size) (hv : (((s[0]'h0).toNat : Nat) : Int) = cv) (w : World) (c34 : ¬ cv = 34) (c64 : ¬ cv = 64) (i1 : Int) (hi1 : ¬ 0 ≤ i1) (HI1 : Hid (∀ W, Calls Tryz.prog 162 #[.string ⟨#[48, 49, 50, 51, 52, 53, 54, 55, 56, 57]⟩, .int .u8 cv] W fun e w' => e = .returned (.int .i64 i1) ∧ W = w')) (i2 : Int) (hi2 : 0 ≤ i2) (HI2 : Hid (∀ W, Calls Tryz.prog 162 #[.string ⟨#[97, 98, 99, 100, 101, 102, 103, 104, 105, 106, 107, 108, 109, 110, 111, 112, 113, 114, 115, 116, 117, 118, 119, 120, 121, 122, 65, 66, 67, 68, 69, 70, 71, 72, 73, 74, 75, 76, 77, 78, 79, 80, 81, 82, 83, 84, 85, 86, 87, 88, 89, 90, 95]⟩, .int .u8 cv] W fun e w' => e = .returned (.int .i64 i2) ∧ W = w')) (k : Nat) (HK : Hid (∀ W, Calls Tryz.prog 116 #[.string s, .string ⟨#[97, 98, 99, 100, 101, 102, 103, 104, 105, 106, 107, 108, 109, 110, 111, 112, 113, 114, 115, 116, 117, 118, 119, 120, 121, 122, 65, 66, 67, 68, 69, 70, 71, 72, 73, 74, 75, 76, 77, 78, 79, 80, 81, 82, 83, 84, 85, 86, 87, 88, 89, 90, 95, 48, 49, 50, 51, 52, 53, 54, 55, 56, 57]⟩] W fun e w' => e = .returned (.int .i64 (k : Int)) ∧ Below W.heap.size W w')) (hk : ¬ (32 : Int) < (k : Int)) (hkl : (k : Int) ≤ (s.size : Int)) (p : ByteArray) (hp : s.extract 0 k = p) :
    Calls Tryz.prog 117 #[.string s] w fun e w' => e = .returned (.tuple #[.agg #[.int .i64 4, .int .i64 0, .string p, .int .i64 0, .int .i64 0, .int .i64 0], .int .i64 (k : Int), .int .i64 0]) ∧ Below w.heap.size w w' := by
  have hb1 := Blk.new w 149 #[.int .i64 0, .int .i64 0, .string ⟨#[]⟩, .int .i64 0, .int .i64 0, .int .i64 0]
  go_enter Tryz.func117, Tryz.ntmps117
  go_wp2_with fail
  refine (HI1.out _).mono ?_
  rintro _ _ ⟨rfl, rfl⟩
  go_wp2_with fail
  refine (HI2.out _).mono ?_
  rintro _ _ ⟨rfl, rfl⟩
  go_wp2_with fail
  refine (HK.out _ ).mono ?_
  rintro _ w1 ⟨rfl, hw1⟩
  replace hb1 := hb1.step hw1
  go_wp2_with (first | (refine wpList_store_blk hb1 rfl _ _ _ (by rfl) _ (by rfl) (by rfl) (by (repeat (first | (with_reducible exact hb1) | (with_reducible refine Blk.alloc ?_ _) | (with_reducible refine Blk.drew ?_) | (with_reducible refine Blk.far ?_ (by first | (simp; done) | (simp; omega)) _) | (with_reducible refine Blk.turn ?_ (by with_reducible assumption) (by omega))))) (by rfl) (by kernel_rfl) (by simp [Value.oneCell']) ?_; intro wt hb1n ht))
  refine ret_blk3 rfl hb1n rfl Tryz.underlying149 rfl (by kernel_rfl) rfl ?_
  exact ⟨rfl, by (repeat' (first | (with_reducible exact Below.refl _ _) | (with_reducible assumption) | (with_reducible refine balloc ?_ _) | (with_reducible refine Below.drew ?_) | (with_reducible refine bset ?_ ?_ _) | (with_reducible refine bstep ?_ (by with_reducible assumption)) | (with_reducible refine bturn ?_ (by with_reducible assumption) ?_) | go_size))⟩

end Go.Proofs.YtkkeplmaphcblaaGreatDoor

namespace Go.Proofs.YtkkeplmaphcblaaGreatDoor
open Go.RowKit

/-- Texts in memory. -/
def SS (w : World) (g : Nat) (L : List Bs) : Prop := ∀ i l, L[i]? = some l → w.cell? ⟨g, i, none⟩ = some (.string (bs l))
theorem SS.step {w w' : World} {g : Nat} {L : List Bs} (h : SS w g L) (hb : Below w.heap.size w w') : SS w' g L := fun i l hl => keep1 hb (h i l hl)
theorem SS.of_blk {w : World} {g : Nat} {T : TypeId} {L : List Bs} (h : Blk w g T (L.map fun l => Value.string (bs l)).toArray) : SS w g L := fun i l hl => by
  rw [h.cell, List.getElem?_toArray, List.getElem?_map, hl]
  rfl
theorem signs_any (w : World) : Calls Tryz.prog 166 #[] w fun e w' => (∃ g, e = .returned (.slice (some ⟨g, 0, none⟩) 16 16) ∧ SS w' g signsL) ∧ Below w.heap.size w w' := by
  go_enter Tryz.func166, Tryz.ntmps166
  go_wp2_with fail
  go_returns
  exact ⟨⟨_, rfl, SS.of_blk (Blk.new _ _ _)⟩, by (repeat' (first | (with_reducible exact Below.refl _ _) | (with_reducible assumption) | (with_reducible refine balloc ?_ _) | (with_reducible refine Below.drew ?_) | (with_reducible refine bset ?_ ?_ _) | (with_reducible refine bstep ?_ (by with_reducible assumption)) | (with_reducible refine bturn ?_ (by with_reducible assumption) ?_) | go_size))⟩

theorem find_stop {L : List Bs} {k : Nat} {g : Bs} {p : Bs → Bool} (h : L[k]? = some g) (hp : p g = true) : (L.drop k).find? p = some g := by
  obtain ⟨hk, rfl⟩ := List.getElem?_eq_some_iff.1 h
  rw [List.drop_eq_getElem_cons hk, List.find?_cons, hp]
theorem find_go {L : List Bs} {k : Nat} {g : Bs} {p : Bs → Bool} (h : L[k]? = some g) (hp : p g = false) : (L.drop k).find? p = (L.drop (k + 1)).find? p := by
  obtain ⟨hk, rfl⟩ := List.getElem?_eq_some_iff.1 h
  rw [List.drop_eq_getElem_cons hk, List.find?_cons, hp]
theorem hasp_lit (s : ByteArray) (l g : Bs) (hl : s.data.toList = l) (b : Bool) (hb : g.isPrefixOf l = b) (w : World) :
    Calls Tryz.prog 167 #[.string s, .string (bs g)] w fun e w' => e = .returned (.bool b) ∧ w = w' := by
  refine (Tryz.strings_HasPrefix s (bs g) w).mono ?_
  rintro _ w' ⟨rfl, rfl⟩
  refine ⟨?_, rfl⟩
  rw [hl, ← hb]
  rfl

set_option maxHeartbeats 4000000 in
set_option maxRecDepth 100000 in
theorem next_sign (cv : Int) (s : ByteArray) (hs : s.size ≤ 4000000) (h0 : 0 < s.size) (hv : (((s[0]'h0).toNat : Nat) : Int) = cv) (w : World) (c34 : ¬ cv = 34) (c64 : ¬ cv = 64) (i1 : Int) (hi1 : ¬ 0 ≤ i1) (HI1 : Hid (∀ W, Calls Tryz.prog 162 #[.string ⟨#[48, 49, 50, 51, 52, 53, 54, 55, 56, 57]⟩, .int .u8 cv] W fun e w' => e = .returned (.int .i64 i1) ∧ W = w')) (i2 : Int) (hi2 : ¬ 0 ≤ i2) (HI2 : Hid (∀ W, Calls Tryz.prog 162 #[.string ⟨#[97, 98, 99, 100, 101, 102, 103, 104, 105, 106, 107, 108, 109, 110, 111, 112, 113, 114, 115, 116, 117, 118, 119, 120, 121, 122, 65, 66, 67, 68, 69, 70, 71, 72, 73, 74, 75, 76, 77, 78, 79, 80, 81, 82, 83, 84, 85, 86, 87, 88, 89, 90, 95]⟩, .int .u8 cv] W fun e w' => e = .returned (.int .i64 i2) ∧ W = w')) (l : Bs) (hl : s.data.toList = l) :
    Calls Tryz.prog 117 #[.string s] w fun e w' => e = .returned (.tuple #[tokV (signS l).t, .int .i64 ((signS l).n : Int), .int .i64 (signS l).e]) ∧ Below w.heap.size w w' := by
  have hb1 := Blk.new w 149 #[.int .i64 0, .int .i64 0, .string ⟨#[]⟩, .int .i64 0, .int .i64 0, .int .i64 0]
  have HSg := Lib.hid (fun W => signs_any W)
  have HP := Lib.hid (fun g b hb W => hasp_lit s l g hl b hb W)
  obtain ⟨f, hf⟩ : ∃ f, signsL.find? (fun g => g.isPrefixOf l) = f := ⟨_, rfl⟩
  have hR1 : ∀ q, f = some q → signS l = ⟨⟨5, 0, q, 0, 0, 0⟩, q.length, 0⟩ := fun q h => by unfold signS; rw [hf, h]
  have hR0 : f = none → signS l = bad := fun h => by unfold signS; rw [hf, h]
  have HR := Lib.hid (And.intro hR1 hR0)
  have HF := Lib.hid hf
  clear hR1 hR0 hf hl
  go_enter Tryz.func117, Tryz.ntmps117
  go_wp2_with fail
  refine (HI1.out _).mono ?_
  rintro _ _ ⟨rfl, rfl⟩
  go_wp2_with fail
  refine (HI2.out _).mono ?_
  rintro _ _ ⟨rfl, rfl⟩
  go_wp2_with fail
  refine (HSg.out _).mono ?_
  rintro _ w1 ⟨⟨g, rfl, hS⟩, hw1⟩
  replace hb1 := hb1.step hw1
  have hbl : Below w.heap.size w w1 := by (repeat' (first | (with_reducible exact Below.refl _ _) | (with_reducible assumption) | (with_reducible refine balloc ?_ _) | (with_reducible refine Below.drew ?_) | (with_reducible refine bset ?_ ?_ _) | (with_reducible refine bstep ?_ (by with_reducible assumption)) | (with_reducible refine bturn ?_ (by with_reducible assumption) ?_) | go_size))
  clear HI1 HI2 HSg
  go_wp2_with fail
  go_loopw [107, 16] (fun i _ wr => ∃ k : Nat, k ≤ 16 ∧ i = .int .i64 (k : Int) ∧ SS wr g signsL ∧ Blk wr w.heap.size 149 #[.int .i64 0, .int .i64 0, .string ⟨#[]⟩, .int .i64 0, .int .i64 0, .int .i64 0] ∧ Below w.heap.size w wr ∧ Hid ((signsL.drop k).find? (fun g => g.isPrefixOf l) = f)) (fun i _ _ => 16 - (intOf i).toNat)
  case atStart => exact ⟨0, by omega, rfl, hS, hb1, hbl, HF⟩
  case round =>
    obtain ⟨k, hk, rfl, hS2, hB, hbr, HQ⟩ := hrel
    by_cases hlt : k < 16
    · obtain ⟨q, hq⟩ : ∃ q, signsL[k]? = some q := ⟨signsL[k]'hlt, List.getElem?_eq_getElem hlt⟩
      have hc := hS2 k q hq
      have Hq := Lib.hid hq
      have HS2 := Lib.hid hS2
      clear hS2 hq
      cases hb : q.isPrefixOf l with
      | true =>
        have hfq : f = some q := by rw [← HQ.out]; exact find_stop Hq.out hb
        have hR := HR.out.1 q hfq
        have HR2 := Lib.hid hR
        have Hb := Lib.hid hb
        have Hsz := Lib.hid (bs_size q)
        clear hR hfq hb
        go_wp2_with fail
        refine (HP.out q true Hb.out _).mono ?_
        rintro _ _ ⟨rfl, rfl⟩
        go_wp2_with (first | (refine wpList_store_blk hB rfl _ _ _ (by rfl) _ (by rfl) (by rfl) (by (repeat (first | (with_reducible exact hB) | (with_reducible refine Blk.alloc ?_ _) | (with_reducible refine Blk.drew ?_) | (with_reducible refine Blk.far ?_ (by first | (simp; done) | (simp; omega)) _) | (with_reducible refine Blk.turn ?_ (by with_reducible assumption) (by omega))))) (by rfl) (by kernel_rfl) (by simp [Value.oneCell']) ?_; intro wt hBn ht))
        refine ret_blk3 rfl hBn rfl Tryz.underlying149 rfl (by kernel_rfl) rfl ?_
        exact ⟨by rw [HR2.out]; show _ = Ending.returned (Value.tuple #[.agg _, .int .i64 ((q.length : Nat) : Int), _]); rw [← Hsz.out]; rfl, by (repeat' (first | (with_reducible exact Below.refl _ _) | (with_reducible assumption) | (with_reducible refine balloc ?_ _) | (with_reducible refine Below.drew ?_) | (with_reducible refine bset ?_ ?_ _) | (with_reducible refine bstep ?_ (by with_reducible assumption)) | (with_reducible refine bturn ?_ (by with_reducible assumption) ?_) | go_size))⟩
      | false =>
        have Hb := Lib.hid hb
        have HQ2 : Hid ((signsL.drop (k + 1)).find? (fun g => g.isPrefixOf l) = f) := Lib.hid (by rw [← HQ.out]; exact (find_go Hq.out hb).symm)
        clear hb
        go_wp2_with fail
        refine (HP.out q false Hb.out _).mono ?_
        rintro _ _ ⟨rfl, rfl⟩
        go_wp2_with fail
        go_roundw
        case rel => exact ⟨k + 1, by omega, by go_num, HS2.out, hB, hbr, HQ2⟩
        case measure => simp [intOf]; omega
    · obtain rfl : k = 16 := by omega
      have hfq : f = none := by rw [← HQ.out]; rfl
      have hR := HR.out.2 hfq
      have HR2 := Lib.hid hR
      clear hR hfq hS2
      go_wp2_with (first | (refine wpList_store_blk hB rfl _ _ _ (by rfl) _ (by rfl) (by rfl) (by (repeat (first | (with_reducible exact hB) | (with_reducible refine Blk.alloc ?_ _) | (with_reducible refine Blk.drew ?_) | (with_reducible refine Blk.far ?_ (by first | (simp; done) | (simp; omega)) _) | (with_reducible refine Blk.turn ?_ (by with_reducible assumption) (by omega))))) (by rfl) (by kernel_rfl) (by simp [Value.oneCell']) ?_; intro wt hBn ht))
      refine ret_blk3 rfl hBn rfl Tryz.underlying149 rfl (by kernel_rfl) rfl ?_
      exact ⟨by rw [HR2.out]; rfl, by (repeat' (first | (with_reducible exact Below.refl _ _) | (with_reducible assumption) | (with_reducible refine balloc ?_ _) | (with_reducible refine Below.drew ?_) | (with_reducible refine bset ?_ ?_ _) | (with_reducible refine bstep ?_ (by with_reducible assumption)) | (with_reducible refine bturn ?_ (by with_reducible assumption) ?_) | go_size))⟩
end Go.Proofs.YtkkeplmaphcblaaGreatDoor

namespace Go.Proofs.YtkkeplmaphcblaaGreatDoor
open Go.RowKit

theorem idx_lit (S : ByteArray) (L : Bs) (hS : S.data.toList = L) (c : UInt8) (b : Bool) (hb : decide (0 ≤ Lib.indexByte L c) = b) :
    ∃ i : Int, decide (0 ≤ i) = b ∧ ∀ W, Calls Tryz.prog 162 #[.string S, .int .u8 ((c.toNat : Nat) : Int)] W fun e w' => e = .returned (.int .i64 i) ∧ W = w' := by
  refine ⟨Lib.indexByte L c, hb, fun W => ?_⟩
  refine (Tryz.strings_IndexByte S ((c.toNat : Nat) : Int) W).mono ?_
  rintro _ w' ⟨rfl, rfl⟩
  refine ⟨?_, rfl⟩
  rw [hS, Int.toNat_natCast]
  congr 3
  exact UInt8.ofNat_toNat
theorem qS_len : ∀ (k : Nat) (l : Bs) (p : Bs × Nat), l.length ≤ k → qS l = some p → p.1.length ≤ l.length
  | _, [], _, _, h => by simp [qS] at h
  | 0, c :: r, _, hk, _ => by simp at hk
  | k + 1, c :: r, p, hk, h => by
    rw [qS_cons] at h
    rw [List.length_cons] at hk ⊢
    by_cases h1 : c = 34
    · rw [if_pos h1] at h; cases h; simp
    · rw [if_neg h1] at h
      by_cases h2 : c = 92
      · rw [if_pos h2] at h
        cases r with
        | nil => cases h
        | cons d r2 =>
          simp only at h
          rw [List.length_cons] at hk ⊢
          by_cases h3 : d = 34 ∨ d = 92
          · rw [if_pos h3] at h
            cases hq : qS r2 with
            | none => rw [hq] at h; cases h
            | some q =>
              rw [hq] at h
              have := qS_len k r2 q (by omega) hq
              cases h
              simp only [List.length_cons]
              omega
          · rw [if_neg h3] at h; cases h
      · rw [if_neg h2] at h
        cases hq : qS r with
        | none => rw [hq] at h; cases h
        | some q =>
          rw [hq] at h
          have := qS_len k r q (by omega) hq
          cases h
          simp only [List.length_cons]
          omega

theorem nextS_cons (x : Lx) (c : UInt8) (r : Bs) : nextS x (c :: r) = if figs.contains c = true then numS x (c :: r) else if c = 34 then strS x r else if c = 64 then dateS x r else if lets.contains c = true then nameS (c :: r) else signS (c :: r) := rfl

theorem next_any (x : Lx) (m : Int) (H : LxOK x m) (s : ByteArray) (l : Bs) (hl : s.data.toList = l) (hs : s.size ≤ 4000000) (h0 : 0 < s.size) (w : World) (hw : OKW m w) :
    Calls Tryz.prog 117 #[.string s] w fun e w' => e = .returned (.tuple #[tokV (nextS x l).t, .int .i64 ((nextS x l).n : Int), .int .i64 (nextS x l).e]) ∧ Below w.heap.size w w' := by
  have hll : l.length = s.size := by rw [← hl, size_list]
  match l with
  | [] => rw [List.length_nil] at hll; omega
  | c :: r =>
    have hc : s[0]'h0 = c := head_of hl h0
    have hv : (((s[0]'h0).toNat : Nat) : Int) = ((c.toNat : Nat) : Int) := by rw [hc]
    have hr : s.data.toList.drop 1 = r := by rw [hl]; rfl
    have hrl : r.length + 1 = s.size := by rw [← hll, List.length_cons]
    obtain ⟨i1, hi1, HI1⟩ := idx_lit ⟨#[48, 49, 50, 51, 52, 53, 54, 55, 56, 57]⟩ figs rfl c _ (indexByte_figs c)
    rw [nextS_cons]
    by_cases g1 : figs.contains c = true
    · rw [if_pos g1]
      rw [g1] at hi1
      exact next_num _ s hs h0 hv w i1 (of_decide_eq_true hi1) (Lib.hid HI1) _ _ _ _ _ _ _ _ (Lib.hid (fun W hb => number_any x m H s (c :: r) hl hs W (hw.step hb)))
    · rw [if_neg g1]
      have g1' : figs.contains c = false := by simpa using g1
      rw [g1'] at hi1
      have hn1 : ¬ 0 ≤ i1 := of_decide_eq_false hi1
      by_cases g2 : c = 34
      · rw [if_pos g2]
        have hc34 : ((c.toNat : Nat) : Int) = 34 := by rw [g2]; rfl
        rw [hc34] at hv HI1
        have HQ := fun R hR W => quoted_any s h0 hs R hR W
        rw [hr] at HQ
        unfold strS
        cases hq : qS r with
        | none =>
          rw [hq] at HQ
          exact next_str_none s hs h0 hv w i1 hn1 (Lib.hid HI1) (Lib.hid (HQ _ rfl))
        | some p =>
          rw [hq] at HQ
          have hsz : (bs p.1).size = p.1.length := bs_size _
          simp only
          by_cases hbig : 256 < p.1.length
          · rw [if_pos (.inl hbig)]
            exact next_str_long s hs h0 hv w i1 hn1 (Lib.hid HI1) (bs p.1) _ (by omega) (Lib.hid (HQ _ rfl))
          · have HG := fun W (hb : Below w.heap.size w W) => H.G (bs p.1) p.1 rfl (by omega) W (hw.step hb)
            cases hg : x.G p.1 with
            | false =>
              rw [if_pos (.inr rfl)]
              rw [hg] at HG
              exact next_str_bad s hs h0 hv w i1 hn1 (Lib.hid HI1) (bs p.1) _ (by omega) (Lib.hid (HQ _ rfl)) (Lib.hid HG)
            | true =>
              rw [if_neg (by rintro (h | h); · exact hbig h
                             · cases h)]
              rw [hg] at HG
              exact next_str_ok s hs h0 hv w i1 hn1 (Lib.hid HI1) (bs p.1) _ (by omega) (Lib.hid (HQ _ rfl)) (Lib.hid HG)
      · rw [if_neg g2]
        have c34 : ¬ ((c.toNat : Nat) : Int) = 34 := fun e => g2 (UInt8.toNat_inj.1 (by rw [show (34 : UInt8).toNat = 34 from rfl]; omega))
        by_cases g3 : c = 64
        · rw [if_pos g3]
          have hc64 : ((c.toNat : Nat) : Int) = 64 := by rw [g3]; rfl
          rw [hc64] at hv HI1
          have HD0 := fun W (hb : Below w.heap.size w W) => H.D ⟨#[]⟩ [] rfl (by decide) W (hw.step hb)
          unfold dateS quoD
          match r with
          | [] => exact next_at_short s hs h0 hv w i1 hn1 (Lib.hid HI1) (by rw [← hll]; simp) _ _ (Lib.hid HD0)
          | d :: r2 =>
            rw [List.length_cons] at hrl
            have h1 : 1 < s.size := by omega
            have hd : s[1]'h1 = d := by
              have := byte_drop s 1 h1
              rw [hr] at this
              exact (List.cons.inj this).1.symm
            by_cases g34 : d = 34
            · rw [if_pos (by rw [g34]; rfl)]
              have h2 : (((s[1]'h1).toNat : Nat) : Int) = 34 := by rw [hd, g34]; rfl
              obtain ⟨rB, hrB⟩ : ∃ rB, s.extract 1 s.size = rB := ⟨_, rfl⟩
              have hrBl : rB.data.toList = d :: r2 := by rw [← hrB, ext_drop, hr]
              have hrBs : rB.size = s.size - 1 := by rw [← hrB, ext_size]
              have HQ := fun R hR W => quoted_any rB (by omega) (by omega) R hR W
              rw [hrBl, show (d :: r2).drop 1 = r2 from rfl] at HQ
              show Calls Tryz.prog 117 #[.string s] w fun e w' => e = .returned (.tuple #[tokV (match qS r2 with
                | none => bad
                | some p => if ¬ (x.D p.1).2 = 0 ∨ ¬ p.2 = 11 then bad else ⟨⟨3, 0, [], 0, 0, (x.D p.1).1⟩, 13, 0⟩).t, .int .i64 (((match qS r2 with
                | none => bad
                | some p => if ¬ (x.D p.1).2 = 0 ∨ ¬ p.2 = 11 then bad else ⟨⟨3, 0, [], 0, 0, (x.D p.1).1⟩, 13, 0⟩).n : Nat) : Int), .int .i64 (match qS r2 with
                | none => bad
                | some p => if ¬ (x.D p.1).2 = 0 ∨ ¬ p.2 = 11 then bad else ⟨⟨3, 0, [], 0, 0, (x.D p.1).1⟩, 13, 0⟩).e]) ∧ Below w.heap.size w w'
              cases hq : qS r2 with
              | none =>
                rw [hq] at HQ
                exact next_at_none s hs h0 hv w i1 hn1 (Lib.hid HI1) h1 (by omega) h2 rB hrB (Lib.hid (HQ _ rfl)) _ _ (Lib.hid HD0)
              | some p =>
                rw [hq] at HQ
                have hpl := qS_len r2.length r2 p (Nat.le_refl _) hq
                have HD := fun W (hb : Below w.heap.size w W) => H.D (bs p.1) p.1 rfl (by omega) W (hw.step hb)
                simp only
                by_cases he : (x.D p.1).2 = 0
                · by_cases hn : p.2 = 11
                  · rw [if_neg (by rintro (h | h); · exact h he
                                   · exact h hn)]
                    exact next_at_ok s hs h0 hv w i1 hn1 (Lib.hid HI1) h1 (by omega) h2 rB hrB (bs p.1) _ (Lib.hid (HQ _ rfl)) _ _ (Lib.hid HD) he (by rw [hn]; rfl)
                  · rw [if_pos (.inr hn)]
                    exact next_at_len s hs h0 hv w i1 hn1 (Lib.hid HI1) h1 (by omega) h2 rB hrB (bs p.1) _ (Lib.hid (HQ _ rfl)) _ _ (Lib.hid HD) he (by omega)
                · rw [if_pos (.inl he)]
                  exact next_at_bad s hs h0 hv w i1 hn1 (Lib.hid HI1) h1 (by omega) h2 rB hrB (bs p.1) _ (Lib.hid (HQ _ rfl)) _ _ (Lib.hid HD) he
            · have e34 : ¬ (d :: r2).head? = some 34 := fun e => g34 (Option.some.inj e)
              rw [if_neg e34]
              have h2 : ¬ (((s[1]'h1).toNat : Nat) : Int) = 34 := by
                rw [hd]
                exact fun e => g34 (UInt8.toNat_inj.1 (by rw [show (34 : UInt8).toNat = 34 from rfl]; omega))
              exact next_at_other s hs h0 hv w i1 hn1 (Lib.hid HI1) h1 (by omega) h2 _ _ (Lib.hid HD0)
        · rw [if_neg g3]
          have c64 : ¬ ((c.toNat : Nat) : Int) = 64 := fun e => g3 (UInt8.toNat_inj.1 (by rw [show (64 : UInt8).toNat = 64 from rfl]; omega))
          obtain ⟨i2, hi2, HI2⟩ := idx_lit ⟨#[97, 98, 99, 100, 101, 102, 103, 104, 105, 106, 107, 108, 109, 110, 111, 112, 113, 114, 115, 116, 117, 118, 119, 120, 121, 122, 65, 66, 67, 68, 69, 70, 71, 72, 73, 74, 75, 76, 77, 78, 79, 80, 81, 82, 83, 84, 85, 86, 87, 88, 89, 90, 95]⟩ lets rfl c _ (indexByte_lets c)
          by_cases g4 : lets.contains c = true
          · rw [if_pos g4]
            rw [g4] at hi2
            obtain ⟨k, hk⟩ : ∃ k, runS (lets ++ figs) (c :: r) = k := ⟨_, rfl⟩
            have HK := fun W => run_any s ⟨#[97, 98, 99, 100, 101, 102, 103, 104, 105, 106, 107, 108, 109, 110, 111, 112, 113, 114, 115, 116, 117, 118, 119, 120, 121, 122, 65, 66, 67, 68, 69, 70, 71, 72, 73, 74, 75, 76, 77, 78, 79, 80, 81, 82, 83, 84, 85, 86, 87, 88, 89, 90, 95, 48, 49, 50, 51, 52, 53, 54, 55, 56, 57]⟩ k (by omega) (by decide) (by decide) (by rw [hl]; exact hk) W
            unfold nameS
            rw [hk]
            by_cases hk32 : 32 < k
            · rw [if_pos hk32]
              exact next_name_long _ s hs h0 hv w c34 c64 i1 hn1 (Lib.hid HI1) i2 (of_decide_eq_true hi2) (Lib.hid HI2) k (Lib.hid HK) (by omega)
            · rw [if_neg hk32]
              have hkl : k ≤ s.size := by rw [← hk, ← hll]; exact runS_le _ _
              have hp : s.extract 0 k = bs ((c :: r).take k) := by
                apply ByteArray.ext
                apply Array.toList_inj.1
                rw [ext_take, hl]
                rfl
              exact next_name_ok _ s hs h0 hv w c34 c64 i1 hn1 (Lib.hid HI1) i2 (of_decide_eq_true hi2) (Lib.hid HI2) k (Lib.hid HK) (by omega) (by omega) _ hp
          · rw [if_neg g4]
            have g4' : lets.contains c = false := by simpa using g4
            rw [g4'] at hi2
            exact next_sign _ s hs h0 hv w c34 c64 i1 hn1 (Lib.hid HI1) i2 (of_decide_eq_false hi2) (Lib.hid HI2) (c :: r) hl
end Go.Proofs.YtkkeplmaphcblaaGreatDoor

namespace Go.Proofs.YtkkeplmaphcblaaGreatDoor
open Go.RowKit Go.Shelf

def cellsT (t : Tk) : List Value := [.int .i64 t.k, .int .i64 (t.a : Int), .string (bs t.t), .int .i64 t.n, .int .i64 t.s, .int .i64 t.m]
def cellsL (L : List Tk) : List Value := L.flatMap cellsT
theorem cellsL_length (L : List Tk) : (cellsL L).length = L.length * 6 := by
  induction L with
  | nil => rfl
  | cons t L ih => simp only [cellsL, List.flatMap_cons, List.length_append, List.length_cons] at *; rw [ih]; simp [cellsT]; omega
theorem cellsL_app (L M : List Tk) : cellsL (L ++ M) = cellsL L ++ cellsL M := by simp [cellsL]
theorem cellsL_get : ∀ (L : List Tk) (i : Nat) (t : Tk) (j : Nat) (v : Value), L[i]? = some t → (cellsT t)[j]? = some v → (cellsL L)[i * 6 + j]? = some v
  | [], i, t, j, v, h, _ => by simp at h
  | s :: L, 0, t, j, v, h, hj => by
    obtain rfl : s = t := by simpa using h
    have hl : j < (cellsT s).length := (List.getElem?_eq_some_iff.1 hj).1
    show (cellsT s ++ cellsL L)[0 * 6 + j]? = some v
    rw [Nat.zero_mul, Nat.zero_add, List.getElem?_append_left hl]
    exact hj
  | s :: L, i + 1, t, j, v, h, hj => by
    have hs : (cellsT s).length = 6 := rfl
    show (cellsT s ++ cellsL L)[(i + 1) * 6 + j]? = some v
    rw [List.getElem?_append_right (by omega), hs, show (i + 1) * 6 + j - 6 = i * 6 + j by omega]
    exact cellsL_get L i t j v (by simpa using h) hj
/-- Tokens in memory. -/
def TM (w : World) (A : Option Addr) (L : List Tk) : Prop := ∀ i t, L[i]? = some t → ∃ g o, A = some ⟨g, o, none⟩ ∧ ∀ j v, (cellsT t)[j]? = some v → w.cell? ⟨g, o + i * 6 + j, none⟩ = some v
theorem TM.step {w w' : World} {A : Option Addr} {L : List Tk} (h : TM w A L) (hb : Below w.heap.size w w') : TM w' A L := fun i t ht => by
  obtain ⟨g, o, e, hc⟩ := h i t ht
  exact ⟨g, o, e, fun j v hj => keep1 hb (hc j v hj)⟩
theorem TM.nil (w : World) (A : Option Addr) : TM w A [] := fun i t h => by simp at h
theorem infoTok : (Tryz.prog.info? 149).map (fun i => (i.zero, i.size, i.bytes)) = some (some (.agg #[.int .i64 0, .int .i64 0, .string ⟨#[]⟩, .int .i64 0, .int .i64 0, .int .i64 0]), 6, 56) := by kernel_rfl
theorem run_white (s : ByteArray) (k : Nat) (hs : s.size ≤ 4000000) (hk : runS whites s.data.toList = k) (w : World) :
    Calls Tryz.prog 116 #[.string s, .string ⟨#[32, 9, 13, 10]⟩] w fun e w' => e = .returned (.int .i64 (k : Int)) ∧ Below w.heap.size w w' :=
  run_any s ⟨#[32, 9, 13, 10]⟩ k (by omega) (by decide) (by decide) hk w
theorem own_tm {w : World} {base n : Nat} {v : Value} {L : List Tk} (h : w.ownsRow base 149 6 v n (cellsL L)) (hn : n = L.length) : ∃ A c, v = .slice A n c ∧ TM w A L ∧ n ≤ c ∧ c ≤ maxLen := by
  rcases h.2 with ⟨hv, h0⟩ | ⟨g, cap, cur, hv, _, _, hnc, hcm, _⟩
  · have hL : L = [] := List.eq_nil_of_length_eq_zero (by omega)
    subst hL
    exact ⟨none, 0, by rw [hv, h0], TM.nil _ _, by omega, by unfold maxLen; omega⟩
  · refine ⟨_, _, hv, fun i t ht => ⟨g, 0, rfl, fun j u hj => ?_⟩, hnc, hcm⟩
    have := h.cells (g := g) (by rw [hv]; rfl) (i * 6 + j) u (cellsL_get L i t j u ht hj)
    rw [Nat.zero_add]
    have e : (⟨g, 0, none⟩ : Addr).add (i * 6 + j) = ⟨g, i * 6 + j, none⟩ := by unfold Addr.add; split <;> simp_all
    rw [e] at this
    exact this

theorem own_below {w w' : World} {base : Nat} {e : TypeId} {size : Nat} {v : Value} {n : Nat} {xs : List Value} (h : w.ownsRow base e size v n xs) (hb : Below w.heap.size w w') : w'.ownsRow base e size v n xs := by
  refine ⟨h.1, ?_⟩
  rcases h.2 with h0 | ⟨g, cap, cur, hv, h1, h2, h3⟩
  · exact .inl h0
  · exact .inr ⟨g, cap, cur, hv, h1, (hb.block g (Array.getElem?_eq_some_iff.1 h2).1).trans h2, h3⟩

set_option maxHeartbeats 8000000 in
set_option maxRecDepth 100000 in
theorem tokens_any (x : Lx) (m : Int) (H : LxOK x m) (s : ByteArray) (l : Bs) (hl : s.data.toList = l) (hs : s.size ≤ 65536) (w : World) (hw : OKW m w) :
    Calls Tryz.prog 75 #[.string s] w fun e w' => (∃ A c, e = .returned (.tuple #[.slice A (toksS x l).l.length c, .int .i64 ((toksS x l).n : Int), .int .i64 (toksS x l).e]) ∧ TM w' A (toksS x l).l ∧ (toksS x l).l.length ≤ c ∧ c ≤ maxLen) ∧ Below w.heap.size w w' := by
  have hll : l.length = s.size := by rw [← hl, size_list]
  obtain ⟨i0, hi, hz0, hz1, hz2⟩ := info_parts infoTok
  obtain ⟨T, hT⟩ : ∃ T, toksS x l = T := ⟨_, rfl⟩
  rw [hT]
  have hT2 : toksA x (l.length + 1) 0 l [] = T := by rw [← hT]; unfold toksS; rw [if_neg (by omega)]
  obtain ⟨k, hk⟩ : ∃ k, runS whites l = k := ⟨_, rfl⟩
  have hkl : k ≤ s.size := by rw [← hk, ← hll]; exact runS_le _ _
  have H1 := Lib.hid (fun W => run_white s k (by omega) (by rw [hl, hk]) W)
  have HW := Lib.hid (fun W (hb : Below w.heap.size w W) => hw.step hb)
  have Hl := Lib.hid hl
  have HT2 := Lib.hid hT2
  have Hk := Lib.hid hk
  have HX := Lib.hid H
  have hbig : ¬ (65536 : Int) < (s.size : Int) := by omega
  clear hT hT2 hk hl H hw
  go_enter Tryz.func75, Tryz.ntmps75
  go_wp2_with fail
  refine (H1.out _).mono ?_
  rintro _ w1 ⟨rfl, hw1⟩
  go_wp2_with fail
  go_loopw [5, 6, 7, 8, 9] (fun out at_ _ _ _ wr => ∃ (f a k p : Nat) (acc : List Tk), at_ = .int .i64 (p : Int) ∧ p ≤ s.size ∧ acc.length ≤ p ∧ Hid (p = a + k ∧ acc.length ≤ a ∧ runS whites (s.data.toList.drop a) = k ∧ toksA x f a (s.data.toList.drop a) acc = T ∧ s.size < a + f) ∧ wr.ownsRow w.heap.size 149 6 out acc.length (cellsL acc) ∧ Below w.heap.size w wr) (fun _ at_ _ _ _ _ => s.size - (intOf at_).toNat)
  case atStart => exact ⟨l.length + 1, 0, k, k, [], rfl, hkl, by simp, Lib.hid (by rw [Hl.out, List.drop_zero]; exact ⟨by omega, by simp, Hk.out, HT2.out, by omega⟩), ⟨rfl, .inl ⟨rfl, rfl⟩⟩, hw1⟩
  case round =>
    obtain ⟨f, a, k1, p, acc, rfl, hp, hal, HQ, hown, hbr⟩ := hrel
    have hsz := hbr.size
    by_cases hlt : p < s.size
    · obtain ⟨c, r, hcr⟩ : ∃ c r, s.data.toList.drop p = c :: r := ⟨_, _, byte_drop s p hlt⟩
      have hd : (s.data.toList.drop a).drop (runS whites (s.data.toList.drop a)) = c :: r := by rw [HQ.out.2.2.1, List.drop_drop, ← HQ.out.1]; exact hcr
      obtain ⟨f', hf⟩ : ∃ f', f = f' + 1 := ⟨f - 1, by have := HQ.out; omega⟩
      obtain ⟨q, hq⟩ : ∃ q, s.extract p s.size = q := ⟨_, rfl⟩
      have hql : q.data.toList = c :: r := by rw [← hq, ext_drop, hcr]
      have hqs : q.size = s.size - p := by rw [← hq, ext_size]
      obtain ⟨N, hN⟩ : ∃ N, nextS x (c :: r) = N := ⟨_, rfl⟩
      have hnx := fun W hW => next_any x m HX.out q (c :: r) hql (by omega) (by omega) W hW
      rw [hN] at hnx
      have HN : Hid (∀ W, OKW m W → Calls Tryz.prog 117 #[.string q] W fun e w' => e = .returned (.tuple #[.agg #[.int .i64 N.t.k, .int .i64 (N.t.a : Int), .string (bs N.t.t), .int .i64 N.t.n, .int .i64 N.t.s, .int .i64 N.t.m], .int .i64 (N.n : Int), .int .i64 N.e]) ∧ Below W.heap.size W w') := Lib.hid hnx
      have hstep := HQ.out.2.2.2.1
      rw [hf] at hstep
      by_cases he : N.e = 0
      · have hbd := next_bd x (c :: r) (by rw [hN]; exact he)
        rw [hN] at hbd
        rw [toksA_go hd (by rw [hN]; exact he), hN, HQ.out.2.2.1, ← HQ.out.1] at hstep
        obtain ⟨n, hn⟩ : ∃ n, N.n = n := ⟨_, rfl⟩
        rw [hn] at hbd hstep HN
        have hcl : (c :: r).length = s.size - p := by rw [← hql, size_list, hqs]
        have hdd : (c :: r).drop n = s.data.toList.drop (p + n) := by rw [← hcr, List.drop_drop]
        rw [hdd] at hstep
        obtain ⟨p2, hp2⟩ : ∃ p2, p + n = p2 := ⟨_, rfl⟩
        rw [hp2] at hstep
        have kp : (p : Int) + (n : Int) = (p2 : Int) := by omega
        have kpw : IntKind.i64.wrap (p2 : Int) = (p2 : Int) := IntWalk.i64_in _ (by omega)
        obtain ⟨k3, hk3⟩ : ∃ k3, runS whites (s.data.toList.drop p2) = k3 := ⟨_, rfl⟩
        obtain ⟨q2, hq2⟩ : ∃ q2, s.extract p2 s.size = q2 := ⟨_, rfl⟩
        have hq2l : q2.data.toList = s.data.toList.drop p2 := by rw [← hq2, ext_drop]
        have hq2s : q2.size = s.size - p2 := by rw [← hq2, ext_size]
        have hk3l : k3 ≤ s.size - p2 := by rw [← hk3, ← hq2s, ← size_list, hq2l]; exact runS_le _ _
        have H3 := Lib.hid (fun W => run_white q2 k3 (by omega) (by rw [hq2l, hk3]) W)
        obtain ⟨p3, hp3⟩ : ∃ p3, p2 + k3 = p3 := ⟨_, rfl⟩
        have kp3 : (p2 : Int) + (k3 : Int) = (p3 : Int) := by omega
        have kp3w : IntKind.i64.wrap (p3 : Int) = (p3 : Int) := IntWalk.i64_in _ (by omega)
        obtain ⟨t2, ht2⟩ : ∃ t2 : Tk, { N.t with a := p } = t2 := ⟨_, rfl⟩
        rw [ht2] at hstep
        have hc2 : cellsL acc ++ [.int .i64 N.t.k, .int .i64 (p : Int), .string (bs N.t.t), .int .i64 N.t.n, .int .i64 N.t.s, .int .i64 N.t.m] = cellsL (acc ++ [t2]) := by rw [cellsL_app, ← ht2]; rfl
        have HQ2 : Hid (p3 = p2 + k3 ∧ (acc ++ [t2]).length ≤ p2 ∧ runS whites (s.data.toList.drop p2) = k3 ∧ toksA x f' p2 (s.data.toList.drop p2) (acc ++ [t2]) = T ∧ s.size < p2 + f') := Lib.hid ⟨hp3.symm, by rw [List.length_append, List.length_singleton]; omega, hk3, hstep, by have := HQ.out; omega⟩
        have hp2s : p2 ≤ s.size := by omega
        have hp2i : (p2 : Int) ≤ (s.size : Int) := by omega
        have Hpp : Hid (p < p3 ∧ p3 ≤ s.size ∧ (acc ++ [t2]).length ≤ p3) := Lib.hid ⟨by omega, by omega, by rw [List.length_append, List.length_singleton]; omega⟩
        have HC2 := Lib.hid hc2
        have Hown := Lib.hid hown
        have hpi : (p : Int) < (s.size : Int) := by omega
        clear hstep hdd hbd hnx hd hcr hf hq2l hq2s hk3 hp3 ht2 hc2 hown hql hqs hN hn hcl hp2
        go_wp2_with fail
        refine (HN.out _ (HW.out _ hbr)).mono ?_
        rintro _ w2 ⟨rfl, hb2⟩
        have hbt := Blk.new w2 149 #[.int .i64 N.t.k, .int .i64 (N.t.a : Int), .string (bs N.t.t), .int .i64 N.t.n, .int .i64 N.t.s, .int .i64 N.t.m]
        have hown2 := own_below (own_below Hown.out hb2) (show Below w2.heap.size w2 (w2.alloc (.cells #[.int .i64 N.t.k, .int .i64 (p : Int), .string (bs N.t.t), .int .i64 N.t.n, .int .i64 N.t.s, .int .i64 N.t.m] 149)) by (repeat' (first | (with_reducible exact Below.refl _ _) | (with_reducible assumption) | (with_reducible refine balloc ?_ _) | (with_reducible refine Below.drew ?_) | (with_reducible refine bset ?_ ?_ _) | (with_reducible refine bstep ?_ (by with_reducible assumption)) | (with_reducible refine bturn ?_ (by with_reducible assumption) ?_) | go_size)))
        go_wp2_with (at_builtin; refine wpList_append_own _ rfl _ _ 67 rfl w.heap.size 149 i0 (.agg #[.int .i64 0, .int .i64 0, .string ⟨#[]⟩, .int .i64 0, .int .i64 0, .int .i64 0]) 6 56 Tryz.underlying67 hi hz0 hz1 hz2 rfl (by decide) _ _ _ rfl (hown2.alloc _) ⟨w2.heap.size + 1, 0, none⟩ 1 1 [.int .i64 N.t.k, .int .i64 (p : Int), .string (bs N.t.t), .int .i64 N.t.n, .int .i64 N.t.s, .int .i64 N.t.m] rfl rfl ?c1 ?c2 ?c3 ?c4 ?c5 ?_)
        case c1 =>
          intro j u hj
          match j, hj with
          | 0, hj => simp at hj; subst hj; simp [Addr.add]
          | 1, hj => simp at hj; subst hj; simp [Addr.add]
          | 2, hj => simp at hj; subst hj; simp [Addr.add]
          | 3, hj => simp at hj; subst hj; simp [Addr.add]
          | 4, hj => simp at hj; subst hj; simp [Addr.add]
          | 5, hj => simp at hj; subst hj; simp [Addr.add]
          | j + 6, hj => simp at hj
        case c2 =>
          intro u hu
          simp only [List.mem_cons, List.not_mem_nil, or_false] at hu
          rcases hu with h | h | h | h | h | h <;> subst h <;> rfl
        case c3 => unfold maxLen; omega
        case c4 => omega
        case c5 => have := hb2.size; simp; omega
        intro v' w3 hown' hgrow _
        rw [HC2.out] at hown'
        have hb3 : Below w.heap.size w w3 := (Below.alloc (Below.alloc (hbr.trans (hb2.mono hsz)) (by have := hb2.size; omega) _) (by have := hb2.size; simp; omega) _).grown hgrow (by have := hb2.size; simp; omega) (fun k hk => (Hown.out.lt k hk).1)
        obtain ⟨A, cp, hv, hTM, _⟩ := own_tm hown' (by rw [List.length_append, List.length_singleton])
        have Hown' := Lib.hid hown'
        have Hv := Lib.hid hv
        clear hown' hgrow hv hTM hown2
        go_wp2_with fail
        refine (H3.out _).mono ?_
        rintro _ w4 ⟨rfl, hb4⟩
        go_wp2_with fail
        go_roundw
        case rel => exact ⟨f', p2, k3, p3, acc ++ [t2], by go_num, Hpp.out.2.1, Hpp.out.2.2, HQ2, by rw [List.length_append, List.length_singleton]; exact own_below Hown'.out hb4, hb3.trans (hb4.mono hb3.size)⟩
        case measure => have := Hpp.out.1; simp [intOf]; omega
      · rw [toksA_bad hd (by rw [hN]; exact he), hN, HQ.out.2.2.1, ← HQ.out.1] at hstep
        have HE := Lib.hid hstep
        have hpi : (p : Int) < (s.size : Int) := by omega
        clear hstep hnx hd hcr hf hql hqs hN
        go_wp2_with fail
        refine (HN.out _ (HW.out _ hbr)).mono ?_
        rintro _ w2 ⟨rfl, hb2⟩
        go_wp2_with fail
        go_returns
        exact ⟨⟨none, 0, by rw [← HE.out]; rfl, by rw [← HE.out]; exact TM.nil _ _, by rw [← HE.out]; exact Nat.le_refl _, by unfold maxLen; omega⟩, (hbr.trans (hb2.mono hsz)).alloc (by have := hb2.size; omega) _⟩
    · obtain rfl : p = s.size := by omega
      have hd : (s.data.toList.drop a).drop (runS whites (s.data.toList.drop a)) = [] := by rw [HQ.out.2.2.1, List.drop_drop, ← HQ.out.1]; exact drop_end s _ (Nat.le_refl _)
      obtain ⟨f', hf⟩ : ∃ f', f = f' + 1 := ⟨f - 1, by have := HQ.out; omega⟩
      have hstep := HQ.out.2.2.2.1
      rw [hf, toksA_end hd] at hstep
      have HE := Lib.hid hstep
      obtain ⟨A, cp, hv, hTM, hcap⟩ := own_tm hown rfl
      subst hv
      have HTM := Lib.hid hTM
      have HCap := Lib.hid hcap
      clear hd hf hstep hTM hown hcap
      go_wp2_with fail
      go_returns
      exact ⟨⟨A, cp, by rw [← HE.out]; rfl, by rw [← HE.out]; exact HTM.out, by rw [← HE.out]; exact HCap.out⟩, hbr⟩
end Go.Proofs.YtkkeplmaphcblaaGreatDoor
