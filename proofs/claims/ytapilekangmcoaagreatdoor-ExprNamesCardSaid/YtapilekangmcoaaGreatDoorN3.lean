/- What taking a text apart computes, plainly, and that two texts with a blank between have the tokens of both. No program in sight. Two texts with a blank between have the tokens of both. No program in sight. The walk of lex.run. The walks of strings.Builder's methods that write, at this program. The walk of strings.Builder's WriteString, at this program. What going through tokens computes, plainly. No program in sight. What reading the tests of a cell computes, plainly. No program in sight. A token that stands does not hang on what follows, where that begins with a sign that ends it. No program in sight. Tests with not( ) around are those tests, turned round: plainly. Tests with not( ) around are read as the tests without: step by step, plainly. What reading an expression computes, plainly. No program in sight. -/
import Derived.Lib.SlTrimSet
import Derived.Shelf.Strings.SlTrimAscii
import Derived.Laws.AppendOwn
import Derived.Lib.AppendStr
import Derived.Test.YtapilekangmcoaaGreatDoorN1
import Derived.Test.YtapilekangmcoaaGreatDoorN2
set_option linter.unusedVariables false
set_option linter.unusedSimpArgs false
set_option maxHeartbeats 8000000
set_option maxRecDepth 100000
namespace Go.Proofs.YtapilekangmcoaaGreatDoor
abbrev Bs := List UInt8
def bs (l : Bs) : ByteArray := ⟨l.toArray⟩
/-- A token. -/
structure Tk where
 k : Int
 a : Nat
 t : Bs
 n : Int
 s : Int
 m : Int
def zeroT : Tk := ⟨0, 0, [], 0, 0, 0⟩
/-- What is taken as given: the number of a text of digits, the day of a text, whether a text's signs may stand. -/
structure Lx where
 P : Bs → Res
 D : Bs → Int × Int
 G : Bs → Bool
def figs : Bs := [48, 49, 50, 51, 52, 53, 54, 55, 56, 57]
def lets : Bs := [97, 98, 99, 100, 101, 102, 103, 104, 105, 106, 107, 108, 109, 110, 111, 112, 113, 114, 115, 116, 117, 118, 119, 120, 121, 122, 65, 66, 67, 68, 69, 70, 71, 72, 73, 74, 75, 76, 77, 78, 79, 80, 81, 82, 83, 84, 85, 86, 87, 88, 89, 90, 95]
def whites : Bs := [32, 9, 13, 10]
def signsL : List Bs := [[46, 46], [33, 61], [60, 61], [62, 61], [43], [45], [42], [47], [61], [60], [62], [40], [41], [91], [93], [44]]
/-- How many bytes a text begins with that are of some. -/
def runS (S l : Bs) : Nat := (l.takeWhile (S.contains ·)).length
def dotted (r : Bs) : Bool :=
 match r with
 | 46 :: c :: _ => figs.contains c
 | _ => false
def numLen (l : Bs) : Nat := if dotted (l.drop (runS figs l)) then runS figs l + 1 + runS figs (l.drop (runS figs l + 1)) else runS figs l
/-- What stands behind a quote, up to the next one, and how many bytes that takes. -/
def qS : Bs → Option (Bs × Nat)
 | [] => none
 | c :: r =>
   if c = 34 then some ([], 1)
   else if c = 92 then
     match r with
     | [] => none
     | d :: r2 => if d = 34 ∨ d = 92 then (qS r2).map fun p => (d :: p.1, p.2 + 2) else none
   else (qS r).map fun p => (c :: p.1, p.2 + 1)
structure Nx where
 t : Tk
 n : Nat
 e : Int
def bad : Nx := ⟨zeroT, 0, 5⟩
def strS (x : Lx) (r : Bs) : Nx :=
 match qS r with
 | none => bad
 | some p => if 256 < p.1.length ∨ x.G p.1 = false then bad else ⟨⟨2, 0, p.1, 0, 0, 0⟩, p.2 + 1, 0⟩
def quoD (r : Bs) : Option (Bs × Nat) := if r.head? = some 34 then qS r.tail else none
def dateS (x : Lx) (r : Bs) : Nx :=
 match quoD r with
 | none => bad
 | some p => if ¬ (x.D p.1).2 = 0 ∨ ¬ p.2 = 11 then bad else ⟨⟨3, 0, [], 0, 0, (x.D p.1).1⟩, 13, 0⟩
def nameS (l : Bs) : Nx := if 32 < runS (lets ++ figs) l then bad else ⟨⟨4, 0, l.take (runS (lets ++ figs) l), 0, 0, 0⟩, runS (lets ++ figs) l, 0⟩
def signS (l : Bs) : Nx :=
 match signsL.find? (fun g => g.isPrefixOf l) with
 | some g => ⟨⟨5, 0, g, 0, 0, 0⟩, g.length, 0⟩
 | none => bad
def numS (x : Lx) (l : Bs) : Nx := ⟨⟨1, 0, [], (x.P (l.take (numLen l))).n, (x.P (l.take (numLen l))).s, 0⟩, numLen l, (x.P (l.take (numLen l))).e⟩
/-- The token that a text begins with, and how many bytes it has. -/
def nextS (x : Lx) (l : Bs) : Nx :=
 match l with
 | [] => bad
 | c :: r =>
   if figs.contains c then numS x l
   else if c = 34 then strS x r
   else if c = 64 then dateS x r
   else if lets.contains c then nameS l
   else signS l
structure Tks where
 l : List Tk
 n : Nat
 e : Int
/-- The tokens behind those that are taken already. -/
def toksA (x : Lx) : Nat → Nat → Bs → List Tk → Tks
 | 0, _, _, acc => ⟨acc, 0, 0⟩
 | f + 1, a, l, acc =>
   match l.drop (runS whites l) with
   | [] => ⟨acc, 0, 0⟩
   | c :: r =>
     if (nextS x (c :: r)).e = 0 then toksA x f (a + runS whites l + (nextS x (c :: r)).n) ((c :: r).drop (nextS x (c :: r)).n) (acc ++ [{ (nextS x (c :: r)).t with a := a + runS whites l }])
     else ⟨[], a + runS whites l, (nextS x (c :: r)).e⟩
def toksS (x : Lx) (l : Bs) : Tks := if 65536 < l.length then ⟨[], 0, 10⟩ else toksA x (l.length + 1) 0 l []
theorem runS_le (S l : Bs) : runS S l ≤ l.length := (List.takeWhile_sublist _).length_le
theorem runS_cons (S : Bs) (c : UInt8) (l : Bs) : runS S (c :: l) = if S.contains c then runS S l + 1 else 0 := by
 unfold runS
 rw [List.takeWhile_cons]
 split <;> rfl
/-- A run that ends inside, or at a byte that is not of it, does not hang on what follows. -/
theorem runS_app (S : Bs) {b : UInt8} (hb : S.contains b = false) (l m : Bs) : runS S (l ++ b :: m) = runS S l := by
 induction l with
 | nil => rw [List.nil_append, runS_cons, hb]; rfl
 | cons c l ih => rw [List.cons_append, runS_cons, runS_cons, ih]
theorem runS_head {S : Bs} {c : UInt8} {l : Bs} (h : S.contains c = true) : 1 ≤ runS S (c :: l) := by rw [runS_cons, if_pos h]; omega
theorem drop_app {l m : Bs} {k : Nat} (h : k ≤ l.length) : (l ++ m).drop k = l.drop k ++ m := by
 rw [List.drop_append, Nat.sub_eq_zero_of_le h]; rfl
theorem take_app {l m : Bs} {k : Nat} (h : k ≤ l.length) : (l ++ m).take k = l.take k := by
 rw [List.take_append, Nat.sub_eq_zero_of_le h, List.take_zero, List.append_nil]
theorem dotted_app (r m : Bs) : dotted (r ++ 32 :: m) = dotted r := by
 match r with
 | [] => rfl
 | [c] => by_cases hc : c = 46
          · subst hc; rfl
          · simp [dotted, hc]
 | c :: d :: r => by_cases hc : c = 46
                  · subst hc; rfl
                  · simp [dotted, hc]
theorem dotted_len {r : Bs} (h : dotted r = true) : 2 ≤ r.length := by
 match r, h with
 | c :: d :: r, _ => simp
 | [c], h => by_cases hc : c = 46 <;> simp [dotted] at h
theorem numLen_le (l : Bs) : numLen l ≤ l.length := by
 unfold numLen
 split
 · rename_i h
   have h2 := dotted_len h
   have h3 := runS_le figs (l.drop (runS figs l + 1))
   have h4 := runS_le figs l
   rw [List.length_drop] at h2 h3
   omega
 · exact runS_le _ _
theorem numLen_app (l m : Bs) : numLen (l ++ 32 :: m) = numLen l := by
 have h32 : figs.contains 32 = false := rfl
 unfold numLen
 rw [runS_app figs h32, drop_app (runS_le _ _), dotted_app]
 by_cases h : dotted (l.drop (runS figs l)) = true
 · have h2 := dotted_len h
   rw [List.length_drop] at h2
   rw [if_pos h, if_pos h, drop_app (by omega), runS_app figs h32]
 · rw [if_neg h, if_neg h]
theorem qS_cons (c : UInt8) (r : Bs) : qS (c :: r) = if c = 34 then some ([], 1) else if c = 92 then (match r with
     | [] => none
     | d :: r2 => if d = 34 ∨ d = 92 then (qS r2).map fun p => (d :: p.1, p.2 + 2) else none) else (qS r).map fun p => (c :: p.1, p.2 + 1) := by
 rw [qS.eq_def]
 rfl
theorem qS_app : ∀ (k : Nat) (l m : Bs) (p : Bs × Nat), l.length ≤ k → qS l = some p → qS (l ++ m) = some p ∧ p.2 ≤ l.length ∧ 1 ≤ p.2
 | _, [], _, _, _, h => by simp [qS] at h
 | 0, c :: r, _, _, hk, _ => by simp at hk
 | k + 1, c :: r, m, p, hk, h => by
   rw [List.cons_append, qS_cons]
   rw [qS_cons] at h
   rw [List.length_cons] at hk ⊢
   by_cases h1 : c = 34
   · rw [if_pos h1] at h ⊢
     cases h
     exact ⟨rfl, by simp, by simp⟩
   · rw [if_neg h1] at h ⊢
     by_cases h2 : c = 92
     · rw [if_pos h2] at h ⊢
       cases r with
       | nil => cases h
       | cons d r2 =>
         simp only [List.cons_append] at h ⊢
         rw [List.length_cons] at hk ⊢
         by_cases h3 : d = 34 ∨ d = 92
         · rw [if_pos h3] at h ⊢
           cases hq : qS r2 with
           | none => rw [hq] at h; cases h
           | some q =>
             rw [hq] at h
             obtain ⟨g1, g2, g3⟩ := qS_app k r2 m q (by omega) hq
             rw [g1]
             cases h
             refine ⟨rfl, ?_, ?_⟩ <;> simp only <;> omega
         · rw [if_neg h3] at h; cases h
     · rw [if_neg h2] at h ⊢
       cases hq : qS r with
       | none => rw [hq] at h; cases h
       | some q =>
         rw [hq] at h
         obtain ⟨g1, g2, g3⟩ := qS_app k r m q (by omega) hq
         rw [g1]
         cases h
         refine ⟨rfl, ?_, ?_⟩ <;> simp only <;> omega
theorem sign_app (l m : Bs) (h : l ≠ []) : signS (l ++ 32 :: m) = signS l := by
 have key : ∀ g ∈ signsL, g.isPrefixOf (l ++ 32 :: m) = g.isPrefixOf l := by
   intro g hg
   match l, h with
   | [c], _ =>
     simp only [signsL, List.mem_cons, List.not_mem_nil, or_false] at hg
     rcases hg with h | h | h | h | h | h | h | h | h | h | h | h | h | h | h | h <;> subst h <;> simp [List.isPrefixOf]
   | c :: d :: r, _ =>
     simp only [signsL, List.mem_cons, List.not_mem_nil, or_false] at hg
     rcases hg with h | h | h | h | h | h | h | h | h | h | h | h | h | h | h | h <;> subst h <;> simp [List.isPrefixOf]
 have : signsL.find? (fun g => g.isPrefixOf (l ++ 32 :: m)) = signsL.find? (fun g => g.isPrefixOf l) := by
   have gen : ∀ L : List Bs, (∀ g ∈ L, g.isPrefixOf (l ++ 32 :: m) = g.isPrefixOf l) → L.find? (fun g => g.isPrefixOf (l ++ 32 :: m)) = L.find? (fun g => g.isPrefixOf l) := by
     intro L
     induction L with
     | nil => intro _; rfl
     | cons g L ih =>
       intro hL
       rw [List.find?_cons, List.find?_cons, hL g (List.mem_cons_self ..), ih fun g hg => hL g (List.mem_cons_of_mem _ hg)]
   exact gen signsL key
 unfold signS
 rw [this]
theorem sign_bd {l : Bs} (h : (signS l).e = 0) : 1 ≤ (signS l).n ∧ (signS l).n ≤ l.length := by
 unfold signS at h ⊢
 cases hf : signsL.find? (fun g => g.isPrefixOf l) with
 | none => rw [hf] at h; cases h
 | some g =>
   have h1 := List.find?_some hf
   have h2 := List.mem_of_find?_eq_some hf
   refine ⟨?_, ?_⟩
   · show 1 ≤ g.length
     simp only [signsL, List.mem_cons, List.not_mem_nil, or_false] at h2
     rcases h2 with h | h | h | h | h | h | h | h | h | h | h | h | h | h | h | h <;> subst h <;> decide
   · show g.length ≤ l.length
     exact (List.isPrefixOf_iff_prefix.1 h1).length_le
theorem name_app (l m : Bs) : nameS (l ++ 32 :: m) = nameS l := by
 have h32 : (lets ++ figs).contains 32 = false := rfl
 unfold nameS
 rw [runS_app _ h32, take_app (runS_le _ _)]
theorem num_app (x : Lx) (l m : Bs) : numS x (l ++ 32 :: m) = numS x l := by
 unfold numS
 rw [numLen_app, take_app (numLen_le _)]
/-- A token that stands does not hang on what follows behind a blank. -/
theorem next_app (x : Lx) (l m : Bs) (h : (nextS x l).e = 0) : nextS x (l ++ 32 :: m) = nextS x l ∧ 1 ≤ (nextS x l).n ∧ (nextS x l).n ≤ l.length := by
 match l with
 | [] => cases h
 | c :: r =>
   rw [List.cons_append]
   unfold nextS at h ⊢
   simp only at h ⊢
   by_cases h1 : figs.contains c = true
   · rw [if_pos h1] at h ⊢
     rw [if_pos h1]
     refine ⟨num_app x (c :: r) m, ?_, numLen_le _⟩
     show 1 ≤ numLen (c :: r)
     unfold numLen
     have := runS_head (l := r) h1
     split <;> omega
   · rw [if_neg h1] at h ⊢
     rw [if_neg h1]
     by_cases h2 : c = 34
     · rw [if_pos h2] at h ⊢
       rw [if_pos h2]
       unfold strS at h ⊢
       cases hq : qS r with
       | none => rw [hq] at h; cases h
       | some p =>
         obtain ⟨g1, g2, g3⟩ := qS_app r.length r (32 :: m) p (Nat.le_refl _) hq
         rw [hq] at h
         rw [g1]
         refine ⟨rfl, ?_, ?_⟩
         · simp only at h ⊢
           split at h
           · cases h
           · rename_i hc; rw [if_neg hc]; simp only; omega
         · simp only at h ⊢
           split at h
           · cases h
           · rename_i hc; rw [if_neg hc]; simp only [List.length_cons]; omega
     · rw [if_neg h2] at h ⊢
       rw [if_neg h2]
       by_cases h3 : c = 64
       · rw [if_pos h3] at h ⊢
         rw [if_pos h3]
         unfold dateS at h ⊢
         cases hq : quoD r with
         | none => rw [hq] at h; cases h
         | some p =>
           have hq2 : quoD (r ++ 32 :: m) = some p ∧ p.2 + 1 ≤ r.length := by
             unfold quoD at hq ⊢
             match r with
             | [] => cases hq
             | d :: r2 =>
               by_cases hd : (d :: r2).head? = some 34
               · rw [if_pos hd] at hq
                 obtain ⟨g1, g2, g3⟩ := qS_app r2.length r2 (32 :: m) p (Nat.le_refl _) hq
                 refine ⟨?_, by rw [List.length_cons]; omega⟩
                 have hd2 : (d :: r2 ++ 32 :: m).head? = some 34 := hd
                 rw [if_pos hd2]
                 exact g1
               · rw [if_neg hd] at hq; cases hq
           rw [hq] at h
           rw [hq2.1]
           refine ⟨rfl, ?_, ?_⟩
           · simp only at h ⊢
             split at h
             · cases h
             · rename_i hc; rw [if_neg hc]; simp
           · simp only at h ⊢
             split at h
             · cases h
             · rename_i hc
               rw [if_neg hc]
               have h11 : p.2 = 11 := Classical.byContradiction fun hn => hc (.inr hn)
               have := hq2.2
               simp only [List.length_cons]
               omega
       · rw [if_neg h3] at h ⊢
         rw [if_neg h3]
         by_cases h4 : lets.contains c = true
         · rw [if_pos h4] at h ⊢
           rw [if_pos h4]
           refine ⟨name_app (c :: r) m, ?_, ?_⟩
           · have h5 : 1 ≤ runS (lets ++ figs) (c :: r) := runS_head (by
               rw [List.contains_iff_mem] at h4 ⊢
               exact List.mem_append_left _ h4)
             unfold nameS at h ⊢
             split at h
             · cases h
             · rename_i hc; rw [if_neg hc]; exact h5
           · have := runS_le (lets ++ figs) (c :: r)
             unfold nameS at h ⊢
             split at h
             · cases h
             · rename_i hc; rw [if_neg hc]; exact this
         · rw [if_neg h4] at h ⊢
           rw [if_neg h4]
           exact ⟨sign_app (c :: r) m (by simp), sign_bd h⟩
end Go.Proofs.YtapilekangmcoaaGreatDoor
namespace Go.Proofs.YtapilekangmcoaaGreatDoor
theorem next_bd (x : Lx) (l : Bs) (h : (nextS x l).e = 0) : 1 ≤ (nextS x l).n ∧ (nextS x l).n ≤ l.length := (next_app x l [] h).2
theorem toksA_end {x : Lx} {f a : Nat} {l : Bs} {acc : List Tk} (h : l.drop (runS whites l) = []) : toksA x (f + 1) a l acc = ⟨acc, 0, 0⟩ := by rw [toksA, h]
theorem toksA_go {x : Lx} {f a : Nat} {l : Bs} {acc : List Tk} {c : UInt8} {r : Bs} (h : l.drop (runS whites l) = c :: r) (he : (nextS x (c :: r)).e = 0) :
   toksA x (f + 1) a l acc = toksA x f (a + runS whites l + (nextS x (c :: r)).n) ((c :: r).drop (nextS x (c :: r)).n) (acc ++ [{ (nextS x (c :: r)).t with a := a + runS whites l }]) := by
 rw [toksA, h]
 simp only
 rw [if_pos he]
theorem toksA_bad {x : Lx} {f a : Nat} {l : Bs} {acc : List Tk} {c : UInt8} {r : Bs} (h : l.drop (runS whites l) = c :: r) (he : ¬ (nextS x (c :: r)).e = 0) :
   toksA x (f + 1) a l acc = ⟨[], a + runS whites l, (nextS x (c :: r)).e⟩ := by
 rw [toksA, h]
 simp only
 rw [if_neg he]
theorem len_drop {l : Bs} {k : Nat} {c : UInt8} {r : Bs} (h : l.drop k = c :: r) : k + (c :: r).length = l.length ∧ k < l.length := by
 have := congrArg List.length h
 rw [List.length_drop, List.length_cons] at this
 rw [List.length_cons]
 omega
theorem toks_fuel (x : Lx) : ∀ (f1 f2 a : Nat) (l : Bs) (acc : List Tk), l.length < f1 → l.length < f2 → toksA x f1 a l acc = toksA x f2 a l acc
 | 0, _, _, _, _, h, _ => by omega
 | _ + 1, 0, _, _, _, _, h => by omega
 | f1 + 1, f2 + 1, a, l, acc, h1, h2 => by
   cases hd : l.drop (runS whites l) with
   | nil => rw [toksA_end hd, toksA_end hd]
   | cons c r =>
     by_cases he : (nextS x (c :: r)).e = 0
     · have hb := next_bd x _ he
       have hl := len_drop hd
       rw [toksA_go hd he, toksA_go hd he]
       have : ((c :: r).drop (nextS x (c :: r)).n).length + (nextS x (c :: r)).n = (c :: r).length := by rw [List.length_drop]; omega
       exact toks_fuel x f1 f2 _ _ _ (by omega) (by omega)
     · rw [toksA_bad hd he, toksA_bad hd he]
end Go.Proofs.YtapilekangmcoaaGreatDoor
namespace Go.Proofs.YtapilekangmcoaaGreatDoor
open Go.RowKit
theorem trim_left (s cs : ByteArray) (w : World) (hcs : cs.size < 4294967281) (h : cs.data.toList.all (fun b => decide (b.toNat < 128)) = true) :
   Calls Tryz.prog 112 #[.string s, .string cs] w fun e w' => e = .returned (.string (bs (s.data.toList.dropWhile (cs.data.toList.contains ·)))) ∧ Below w.heap.size w w' :=
 Any.strings_TrimLeft_laid Tryz.lays161 (by kernel_rfl) s cs w hcs (ascii_of_all h)
theorem bs_size (l : Bs) : (bs l).size = l.length := by simp [bs, ByteArray.size]
theorem size_list (s : ByteArray) : s.data.toList.length = s.size := by simp
theorem run_any (s cs : ByteArray) (k : Nat) (hs : s.size ≤ 9223372036854775807) (hcs : cs.size < 4294967281) (h : cs.data.toList.all (fun b => decide (b.toNat < 128)) = true) (hk : runS cs.data.toList s.data.toList = k) (w : World) :
   Calls Tryz.prog 72 #[.string s, .string cs] w fun e w' => e = .returned (.int .i64 (k : Int)) ∧ Below w.heap.size w w' := by
 have HT := Lib.hid (fun W => trim_left s cs W hcs h)
 have hl : (s.data.toList.dropWhile (cs.data.toList.contains ·)).length + k = s.size := by
   have h1 := congrArg List.length (List.takeWhile_append_dropWhile (p := (cs.data.toList.contains ·)) (l := s.data.toList))
   rw [List.length_append, size_list] at h1
   unfold runS at hk
   omega
 have h2 := bs_size (s.data.toList.dropWhile (cs.data.toList.contains ·))
 generalize s.data.toList.dropWhile (cs.data.toList.contains ·) = D at *
 obtain ⟨B, hB⟩ : ∃ B, bs D = B := ⟨_, rfl⟩
 rw [hB] at HT h2
 have k1 : IntKind.i64.wrap ((s.size : Int) - (B.size : Int)) = (k : Int) := by rw [show (s.size : Int) - (B.size : Int) = (k : Int) by omega]; exact IntWalk.i64_in _ (by omega)
 clear hk hB hl h2
 go_enter Tryz.func72, Tryz.ntmps72
 go_wp2_with fail
 refine (HT.out _).mono ?_
 rintro _ w1 ⟨rfl, hb⟩
 go_wp2_with fail
 go_returns
 exact ⟨rfl, by (repeat' first | (with_reducible first | exact .refl _ _ | assumption | apply balloc | apply Below.drew | apply bset | refine bstep ?_ ‹_› | refine bturn ?_ ‹_› ?_) | go_size)⟩
end Go.Proofs.YtapilekangmcoaaGreatDoor
namespace Go.Proofs.YtapilekangmcoaaGreatDoor
open Go.RowKit Go.Shelf
theorem sizeB : (Tryz.prog.info? 89).map (·.size) = some 2 := by kernel_rfl
theorem liesB : liesAt Tryz.prog Tryz.prog.depth 89 (2 / Tryz.prog.cellsOf 89) 0 89 1 = true := by kernel_rfl
theorem infoU8 : (Tryz.prog.info? 5).map (fun i => (i.zero, i.size, i.bytes)) = some (some (.int .u8 0), 1, 1) := by kernel_rfl
abbrev IsB (B b : Nat) (l : Bs) (w : World) : Prop := Lib.IsBuilder 89 5 B b (Lib.byteCells l) w
set_option maxHeartbeats 1000000 in
theorem check_used (b : Nat) (w : World) (h0 : w.cell? ⟨b, 0, none⟩ = some (.pointer (some ⟨b, 0, none⟩))) :
   Calls Tryz.prog 133 #[.pointer (some ⟨b, 0, none⟩)] w fun e w' => e = .returned (.tuple #[]) ∧ w' = w := by
 obtain ⟨j, hj, _⟩ := Option.map_eq_some_iff.1 sizeB
 go_enter Tryz.func133, Tryz.ntmps133
 go_wp2
 rw [Lib.run_neq_ptr_same w _ Tryz.underlying86 hj]
 go_wp2
 go_end0
 exact ⟨rfl, rfl⟩
set_option maxHeartbeats 1000000 in
theorem check_fresh (b : Nat) (w : World) (h0 : w.cell? ⟨b, 0, none⟩ = some (.pointer none)) (hsh : w.shape? b = some (89, 2)) (hfz : w.frozen? ⟨b, 0, none⟩ = false) :
   Calls Tryz.prog 133 #[.pointer (some ⟨b, 0, none⟩)] w fun e w' => e = .returned (.tuple #[]) ∧ w' = w.setCell ⟨b, 0, none⟩ (.pointer (some ⟨b, 0, none⟩)) := by
 obtain ⟨j, hj, hjs⟩ := Option.map_eq_some_iff.1 sizeB
 go_enter Tryz.func133, Tryz.ntmps133
 go_wp2
 rw [Lib.run_to_unsafe w ⟨b, 0, none⟩ Tryz.underlying86 Tryz.underlying193 hj (by rw [hjs]; decide) hsh (Nat.zero_lt_succ 1)]
 simp only [Result.andThen]
 rw [Oper.upon_value]
 go_wp2
 rw [run_callFunc_extern Tryz.func164 (by kernel_rfl) (by kernel_rfl) (by kernel_rfl) (e := Extern.AbiNoEscape.same) (by kernel_rfl)]
 rw [Lib.run_noEscape]
 simp only [Result.andThen]
 rw [Oper.upon_value]
 go_wp2
 rw [Lib.run_from_unsafe w ⟨b, 0, none⟩ Tryz.underlying193 Tryz.underlying86 hj hsh liesB]
 simp only [Result.andThen]
 rw [Oper.upon_value]
 go_wp2
 go_end0
 exact ⟨rfl, rfl⟩
theorem check_any (B b : Nat) (l : List Value) (w : World) (h : Lib.IsBuilder 89 5 B b l w) :
   Calls Tryz.prog 133 #[.pointer (some ⟨b, 0, none⟩)] w fun e w' => e = .returned (.tuple #[]) ∧ Lib.BuilderAt 89 5 B b (.pointer (some ⟨b, 0, none⟩)) l w' ∧ Below B w w' := by
 rcases h with h | h
 · refine (check_fresh b w h.cell0 h.shape h.frozen0).mono ?_
   rintro e w' ⟨rfl, rfl⟩
   exact ⟨rfl, h.used _, (Below.refl B w).setCell (p := ⟨b, 0, none⟩) h.1 _⟩
 · refine (check_used b w h.cell0).mono ?_
   rintro e w' ⟨rfl, rfl⟩
   exact ⟨rfl, h, Below.refl B _⟩
set_option maxHeartbeats 2000000 in
theorem byte_any (B b : Nat) (l : List Value) (c : Int) (w : World) (h : Lib.IsBuilder 89 5 B b l w) (hlen : l.length + 1 ≤ 1000000000) (hBw : B ≤ w.heap.size) :
   Calls Tryz.prog 90 #[.pointer (some ⟨b, 0, none⟩), .int .u8 c] w fun e w' => e = .returned .nilIface ∧ Lib.BuilderAt 89 5 B b (.pointer (some ⟨b, 0, none⟩)) (l ++ [.int .u8 c]) w' ∧ Below B w w' := by
 obtain ⟨i0, hi, hz0, hz1, hz2⟩ := info_parts infoU8
 go_enter Tryz.func90, Tryz.ntmps90
 go_wp2_with (go_at_call 133; refine (check_any B b l _ h).mono ?_)
 rintro e w1 ⟨rfl, h1, hb1⟩
 obtain ⟨hB, v, hbk, hown, hne⟩ := h1
 have c0 : w1.cell? ⟨b, 0, none⟩ = some (.pointer (some ⟨b, 0, none⟩)) := by rw [Lib.cell_of_heap hbk]; rfl
 have c1 : w1.cell? ⟨b, 1, none⟩ = some v := by rw [Lib.cell_of_heap hbk]; rfl
 go_wp2_with (at_builtin; refine wpList_append_own _ rfl _ _ 87 rfl B 5 i0 (.int .u8 0) 1 1 Tryz.underlying87 hi hz0 hz1 hz2 rfl (by decide) _ _ _ rfl (hown.alloc _) ⟨w1.heap.size, 0, none⟩ 1 1 [.int .u8 c] rfl rfl ?c1 ?c2 ?c3 ?c4 ?c5 ?_)
 case c1 =>
   intro j u hj
   match j, hj with
   | 0, hj => simp at hj; subst hj; simp [Addr.add]
 case c2 => intro u hu; simp at hu; subst hu; rfl
 case c3 => unfold maxLen; omega
 case c4 => omega
 case c5 => have := hb1.size; simp; omega
 intro v' w2 hown' hgrow _
 have hlt : b < w1.heap.size := by
   rcases Nat.lt_or_ge b w1.heap.size with h' | h'
   · exact h'
   · simp [Array.getElem?_eq_none h'] at hbk
 have hb2 : w2.heap[b]? = some (.cells #[.pointer (some ⟨b, 0, none⟩), v] 89 (0, 0)) := by
   rw [hgrow.block b (by simp; omega) (fun e => hne e.symm), Lib.alloc_old w1 _ b hlt]
   exact hbk
 have d0 : w2.cell? ⟨b, 0, none⟩ = some (.pointer (some ⟨b, 0, none⟩)) := by rw [Lib.cell_of_heap hb2]; rfl
 have d1 : w2.cell? ⟨b, 1, none⟩ = some v := by rw [Lib.cell_of_heap hb2]; rfl
 have f1 : w2.frozen? ⟨b, 1, none⟩ = false := Lib.frozen_of_heap hb2 1
 obtain ⟨g, cap, rfl⟩ : ∃ g cap, v' = .slice (some ⟨g, 0, none⟩) (l.length + 1) cap := by
   rcases hown'.2 with ⟨_, h0⟩ | ⟨g, cap, cur, hv, _⟩
   · omega
   · exact ⟨g, cap, hv⟩
 go_wp2
 go_ret
 refine ⟨rfl, ?_, ?_⟩
 · exact Lib.BuilderAt.put (T := 89) (e := 5) hB hb2 (bs' := l ++ [.int .u8 c]) (by simpa using hown') (by decide)
 · exact ((hb1.alloc (by have := hb1.size; omega) _).grown hgrow (by have := hb1.size; simp; omega) (fun k hk => (hown.lt k hk).1)).setCell (p := ⟨b, 1, none⟩) hB _
end Go.Proofs.YtapilekangmcoaaGreatDoor
namespace Go.Proofs.YtapilekangmcoaaGreatDoor
open Go.RowKit Go.Shelf
end Go.Proofs.YtapilekangmcoaaGreatDoor
namespace Go.Proofs.YtapilekangmcoaaGreatDoor
/-- How a parser stands. -/
structure PS where
 L : List Tk
 nx : Nat
 en : Nat
 a : Int
 e : Int
 md : Int
/-- A value. -/
structure Vl where
 k : Int
 n : Int
 s : Int
 t : Bs
 m : Int
def zeroV : Vl := ⟨0, 0, 0, [], 0⟩
def PS.isS (p : PS) (s : Bs) : Bool :=
 p.e == 0 && match p.L[p.nx]? with
   | none => false
   | some t => (t.k == 4 || t.k == 5) && t.t == s
def PS.at' (p : PS) : Int :=
 match p.L[p.nx]? with
 | none => (p.en : Int)
 | some t => (t.a : Int)
def PS.fail (p : PS) (c : Int) : PS := if p.e = 0 then { p with a := p.at', e := c } else p
def PS.adv (p : PS) : PS := { p with nx := p.nx + 1 }
def PS.take (p : PS) (s : Bs) : PS := if p.isS s then p.adv else p
def PS.need (p : PS) (s : Bs) : PS := if p.isS s then p.adv else p.fail 5
def PS.ended (p : PS) : Bool := p.e == 0 && p.nx == p.L.length
def trueB : Bs := [116, 114, 117, 101]
def falseB : Bs := [102, 97, 108, 115, 101]
def nullB : Bs := [110, 117, 108, 108]
/-- The value that a token is. -/
def valT (t : Tk) : Option Vl :=
 if t.k = 1 then some ⟨1, t.n, t.s, [], 0⟩
 else if t.k = 2 then some ⟨2, 0, 0, t.t, 0⟩
 else if t.k = 3 then some ⟨4, 0, 0, [], t.m⟩
 else if (t.k = 4 ∨ t.k = 5) ∧ t.t = trueB then some ⟨3, 0, 0, [], 1⟩
 else if (t.k = 4 ∨ t.k = 5) ∧ t.t = falseB then some ⟨3, 0, 0, [], 0⟩
 else if (t.k = 4 ∨ t.k = 5) ∧ t.t = nullB then some zeroV
 else none
def PS.val (p : PS) : Option Vl :=
 if p.e = 0 then (match p.L[p.nx]? with
   | none => none
   | some t => valT t) else none
/-- The parser of a text. -/
def newP (T : Tks) (en : Nat) : PS := ⟨T.l, 0, en, (T.n : Int), T.e, 0⟩
theorem isS_none {p : PS} {s : Bs} (h : p.L[p.nx]? = none) : p.isS s = false := by unfold PS.isS; rw [h]; simp
theorem isS_err {p : PS} {s : Bs} (h : ¬ p.e = 0) : p.isS s = false := by
 unfold PS.isS
 rw [show (p.e == 0) = false by simpa using h]
 rfl
theorem isS_some {p : PS} {s : Bs} {t : Tk} (he : p.e = 0) (h : p.L[p.nx]? = some t) : p.isS s = ((t.k == 4 || t.k == 5) && t.t == s) := by
 unfold PS.isS
 rw [h, he]
 rfl
end Go.Proofs.YtapilekangmcoaaGreatDoor
namespace Go.Proofs.YtapilekangmcoaaGreatDoor
/-- A literal: a value, perhaps with - ahead. -/
def PS.lit (p : PS) : Vl × PS :=
 match (p.take [45]).val with
 | none => (zeroV, (p.take [45]).fail 5)
 | some v =>
   if p.isS [45] = true then
     if v.k = 1 then ({ v with n := -v.n }, (p.take [45]).adv) else (v, (p.take [45]).fail 5)
   else (v, (p.take [45]).adv)
def PS.close (p : PS) : PS := if p.isS [93] = true ∨ p.isS [41] = true ∨ p.isS [91] = true then p.adv else p.fail 5
/-- All tokens have to be taken. -/
def PS.fin (p : PS) : PS := if p.e = 0 ∧ p.ended = false then p.fail 5 else p
end Go.Proofs.YtapilekangmcoaaGreatDoor
namespace Go.Proofs.YtapilekangmcoaaGreatDoor
/-- What ends every token: nothing, or a byte that no token goes on with. -/
def Stop (M : Bs) : Prop := M = [] ∨ ∃ b m, M = b :: m ∧ (lets ++ figs).contains b = false ∧ b ≠ 61 ∧ dotted M = false
theorem stop_of {b : UInt8} {m : Bs} (h : (lets ++ figs).contains b = false) (h2 : b ≠ 61) (h3 : b ≠ 46) : Stop (b :: m) := .inr ⟨b, m, rfl, h, h2, by
 unfold dotted
 split
 · rename_i h4
   injection h4 with h5 h6
   exact absurd h5 h3
 · rfl⟩
theorem figs_of {b : UInt8} (h : (lets ++ figs).contains b = false) : figs.contains b = false := by
 cases hb : figs.contains b with
 | false => rfl
 | true =>
   rw [List.contains_iff_mem] at hb
   have : (lets ++ figs).contains b = true := by
     rw [List.contains_iff_mem]
     exact List.mem_append_right _ hb
   rw [this] at h
   cases h
theorem dotted_stop {M : Bs} (hM : Stop M) (r : Bs) : dotted (r ++ M) = dotted r := by
 rcases hM with rfl | ⟨b, m, rfl, h1, h2, h3⟩
 · rw [List.append_nil]
 · have hb := figs_of h1
   match r with
   | [] => exact h3
   | [c] =>
     by_cases hc : c = 46
     · subst hc
       show figs.contains b = _
       rw [hb]
       rfl
     · simp [dotted, hc]
   | c :: d :: r =>
     by_cases hc : c = 46
     · subst hc; rfl
     · simp [dotted, hc]
theorem runS_stop {S : Bs} {M : Bs} (hM : M = [] ∨ ∃ b m, M = b :: m ∧ S.contains b = false) (l : Bs) : runS S (l ++ M) = runS S l := by
 rcases hM with rfl | ⟨b, m, rfl, h⟩
 · rw [List.append_nil]
 · exact runS_app S h l m
theorem numLen_stop {M : Bs} (hM : Stop M) (l : Bs) : numLen (l ++ M) = numLen l := by
 have hf : M = [] ∨ ∃ b m, M = b :: m ∧ figs.contains b = false := by
   rcases hM with h | ⟨b, m, h, h1, _⟩
   · exact .inl h
   · exact .inr ⟨b, m, h, figs_of h1⟩
 unfold numLen
 rw [runS_stop hf, drop_app (runS_le _ _), dotted_stop hM]
 by_cases h : dotted (l.drop (runS figs l)) = true
 · have h2 := dotted_len h
   rw [List.length_drop] at h2
   rw [if_pos h, if_pos h, drop_app (by omega), runS_stop hf]
 · rw [if_neg h, if_neg h]
theorem num_stop {M : Bs} (hM : Stop M) (x : Lx) (l : Bs) : numS x (l ++ M) = numS x l := by
 unfold numS
 rw [numLen_stop hM, take_app (numLen_le _)]
theorem name_stop {M : Bs} (hM : Stop M) (l : Bs) : nameS (l ++ M) = nameS l := by
 have hf : M = [] ∨ ∃ b m, M = b :: m ∧ (lets ++ figs).contains b = false := by
   rcases hM with h | ⟨b, m, h, h1, _⟩
   · exact .inl h
   · exact .inr ⟨b, m, h, h1⟩
 unfold nameS
 rw [runS_stop hf, take_app (runS_le _ _)]
theorem sign_stop {M : Bs} (hM : Stop M) {l : Bs} (h : l ≠ []) (he : (signS l).e = 0) : signS (l ++ M) = signS l := by
 rcases hM with rfl | ⟨b, m, rfl, h1, h2, h3⟩
 · rw [List.append_nil]
 · have key : ∀ g ∈ signsL, g.isPrefixOf (l ++ b :: m) = g.isPrefixOf l := by
     intro g hg
     match l, h with
     | [c], _ =>
       have hc46 : c ≠ 46 := by rintro rfl; exact absurd he (by decide)
       have hc33 : c ≠ 33 := by rintro rfl; exact absurd he (by decide)
       simp only [signsL, List.mem_cons, List.not_mem_nil, or_false] at hg
       rcases hg with h | h | h | h | h | h | h | h | h | h | h | h | h | h | h | h <;> subst h <;> simp [List.isPrefixOf]
       · intro h; exact absurd h.symm hc46
       · intro h; exact absurd h.symm hc33
       · intro _ h; exact absurd h.symm h2
       · intro _ h; exact absurd h.symm h2
     | c :: d :: r, _ =>
       simp only [signsL, List.mem_cons, List.not_mem_nil, or_false] at hg
       rcases hg with h | h | h | h | h | h | h | h | h | h | h | h | h | h | h | h <;> subst h <;> simp [List.isPrefixOf]
   have : signsL.find? (fun g => g.isPrefixOf (l ++ b :: m)) = signsL.find? (fun g => g.isPrefixOf l) := by
     have gen : ∀ L : List Bs, (∀ g ∈ L, g.isPrefixOf (l ++ b :: m) = g.isPrefixOf l) → L.find? (fun g => g.isPrefixOf (l ++ b :: m)) = L.find? (fun g => g.isPrefixOf l) := by
       intro L
       induction L with
       | nil => intro _; rfl
       | cons g L ih =>
         intro hL
         rw [List.find?_cons, List.find?_cons, hL g (List.mem_cons_self ..), ih fun g hg => hL g (List.mem_cons_of_mem _ hg)]
     exact gen signsL key
   unfold signS
   rw [this]
/-- A token that stands does not hang on what follows. -/
theorem next_stop {M : Bs} (hM : Stop M) (x : Lx) (l : Bs) (h : (nextS x l).e = 0) : nextS x (l ++ M) = nextS x l := by
 match l with
 | [] => cases h
 | c :: r =>
   rw [List.cons_append]
   unfold nextS at h ⊢
   simp only at h ⊢
   by_cases h1 : figs.contains c = true
   · rw [if_pos h1, if_pos h1]
     exact num_stop hM x (c :: r)
   · rw [if_neg h1] at h ⊢
     rw [if_neg h1]
     by_cases h2 : c = 34
     · rw [if_pos h2] at h ⊢
       rw [if_pos h2]
       unfold strS at h ⊢
       cases hq : qS r with
       | none => rw [hq] at h; cases h
       | some p => rw [(qS_app r.length r M p (Nat.le_refl _) hq).1]
     · rw [if_neg h2] at h ⊢
       rw [if_neg h2]
       by_cases h3 : c = 64
       · rw [if_pos h3] at h ⊢
         rw [if_pos h3]
         unfold dateS at h ⊢
         cases hq : quoD r with
         | none => rw [hq] at h; cases h
         | some p =>
           have hq2 : quoD (r ++ M) = some p := by
             unfold quoD at hq ⊢
             match r with
             | [] => cases hq
             | d :: r2 =>
               by_cases hd : (d :: r2).head? = some 34
               · rw [if_pos hd] at hq
                 have hd2 : (d :: r2 ++ M).head? = some 34 := hd
                 rw [if_pos hd2]
                 exact (qS_app r2.length r2 M p (Nat.le_refl _) hq).1
               · rw [if_neg hd] at hq; cases hq
           rw [hq2]
       · rw [if_neg h3] at h ⊢
         rw [if_neg h3]
         by_cases h4 : lets.contains c = true
         · rw [if_pos h4, if_pos h4]
           exact name_stop hM (c :: r)
         · rw [if_neg h4] at h ⊢
           rw [if_neg h4]
           exact sign_stop hM (by simp) h
/-- The tokens of a text, from a place on, behind those that are taken already. -/
def toksF (x : Lx) (a : Nat) (l : Bs) (acc : List Tk) : Tks := toksA x (l.length + 1) a l acc
theorem toksF_fuel (x : Lx) {f a : Nat} {l : Bs} {acc : List Tk} (h : l.length < f) : toksA x f a l acc = toksF x a l acc := toks_fuel x f (l.length + 1) a l acc h (Nat.lt_succ_self _)
theorem toksF_nil (x : Lx) (a : Nat) (acc : List Tk) : toksF x a [] acc = ⟨acc, 0, 0⟩ := toksA_end rfl
/-- A blank is passed over. -/
theorem toksF_blank (x : Lx) (a : Nat) (m : Bs) (acc : List Tk) : toksF x a (32 :: m) acc = toksF x (a + 1) m acc := by
 unfold toksF
 have hr : runS whites (32 :: m) = runS whites m + 1 := by rw [runS_cons, if_pos (show whites.contains 32 = true from rfl)]
 have hd : (32 :: m).drop (runS whites (32 :: m)) = m.drop (runS whites m) := by rw [hr]; rfl
 cases hc : m.drop (runS whites m) with
 | nil => rw [toksA_end (by rw [hd, hc]), toksA_end hc]
 | cons c r =>
   by_cases he : (nextS x (c :: r)).e = 0
   · have hld := len_drop hc
     have hbd := next_bd x _ he
     rw [toksA_go (by rw [hd, hc]) he, toksA_go hc he, hr]
     have hdl : ((c :: r).drop (nextS x (c :: r)).n).length + (nextS x (c :: r)).n = (c :: r).length := by rw [List.length_drop]; omega
     rw [toksF_fuel x (by rw [List.length_cons]; omega), toksF_fuel x (by omega)]
     rw [show a + (runS whites m + 1) = a + 1 + runS whites m by omega]
   · rw [toksA_bad (by rw [hd, hc]) he, toksA_bad hc he, hr]
     rw [show a + (runS whites m + 1) = a + 1 + runS whites m by omega]
/-- A token is taken. -/
theorem toksF_tok {x : Lx} {o M : Bs} {t : Tk} (hn : nextS x o = ⟨t, o.length, 0⟩) (hw : runS whites o = 0) (hM : Stop M) (a : Nat) (acc : List Tk) : toksF x a (o ++ M) acc = toksF x (a + o.length) M (acc ++ [{ t with a := a }]) := by
 have hne : o ≠ [] := by
   rintro rfl
   cases hn
 obtain ⟨c, r, rfl⟩ : ∃ c r, o = c :: r := by
   cases o with
   | nil => exact absurd rfl hne
   | cons c r => exact ⟨c, r, rfl⟩
 have hs := next_stop hM x (c :: r) (by rw [hn])
 rw [hn] at hs
 have hw2 : runS whites ((c :: r) ++ M) = 0 := by
   rw [runS_cons] at hw
   rw [List.cons_append, runS_cons]
   split at hw
   · omega
   · rename_i hc; rw [if_neg hc]
 unfold toksF
 have hgo := toksA_go (x := x) (f := ((c :: r) ++ M).length) (a := a) (l := (c :: r) ++ M) (acc := acc) (c := c) (r := r ++ M) (by rw [hw2]; rfl) (by rw [← List.cons_append, hs])
 rw [← List.cons_append, hs, hw2] at hgo
 rw [hgo]
 have hd : ((c :: r) ++ M).drop (c :: r).length = M := by simp
 rw [hd]
 exact toksF_fuel x (by rw [List.length_append, List.length_cons]; omega)
end Go.Proofs.YtapilekangmcoaaGreatDoor
namespace Go.Proofs.YtapilekangmcoaaGreatDoor
end Go.Proofs.YtapilekangmcoaaGreatDoor
namespace Go.Proofs.YtapilekangmcoaaGreatDoor
/-- The second parser goes through the same tokens, two behind, with a bracket at the end. -/
structure Sim (p q : PS) : Prop where
 e : p.e = 0
 e' : q.e = 0
 nx : q.nx = p.nx + 2
 le : p.nx ≤ p.L.length
 inn : ∀ i t, p.L[i]? = some t → ∃ u, q.L[i + 2]? = some u ∧ u.k = t.k ∧ u.t = t.t ∧ u.n = t.n ∧ u.s = t.s ∧ u.m = t.m
 fin : ∃ u, q.L[p.L.length + 2]? = some u ∧ u.k = 5 ∧ u.t = [41]
 len : q.L.length = p.L.length + 3
theorem fail_e {p : PS} {c : Int} (hc : c ≠ 0) : ¬ (p.fail c).e = 0 := by
 unfold PS.fail
 split
 · exact hc
 · assumption
theorem isS_lt {p : PS} {s : Bs} (h : p.isS s = true) : p.e = 0 ∧ p.nx < p.L.length := by
 by_cases he : p.e = 0
 · refine ⟨he, ?_⟩
   cases ht : p.L[p.nx]? with
   | none => rw [isS_none ht] at h; cases h
   | some t => exact (List.getElem?_eq_some_iff.1 ht).1
 · rw [isS_err he] at h; cases h
section
variable {p q : PS}
theorem Sim.is_in (h : Sim p q) (hn : p.nx < p.L.length) (s : Bs) : q.isS s = p.isS s := by
 obtain ⟨u, hu, hk, ht, _⟩ := h.inn p.nx _ (List.getElem?_eq_getElem hn)
 rw [isS_some h.e (List.getElem?_eq_getElem hn), isS_some h.e' (by rw [h.nx]; exact hu), hk, ht]
theorem Sim.is_ (h : Sim p q) {s : Bs} (hs : s ≠ [41]) : q.isS s = p.isS s := by
 by_cases hn : p.nx < p.L.length
 · exact h.is_in hn s
 · have hl : p.nx = p.L.length := by have := h.le; omega
   obtain ⟨u, hu, hk, ht⟩ := h.fin
   rw [isS_none (p := p) (List.getElem?_eq_none (by omega)), isS_some h.e' (by rw [h.nx, hl]; exact hu), ht]
   have : ([41] == s) = false := by simpa using fun e => hs e.symm
   rw [this, Bool.and_false]
theorem Sim.adv (h : Sim p q) (hn : p.nx < p.L.length) : Sim p.adv q.adv :=
 ⟨h.e, h.e', by show q.nx + 1 = p.nx + 1 + 2; rw [h.nx], hn, h.inn, h.fin, h.len⟩
theorem Sim.take (h : Sim p q) {s : Bs} (hs : s ≠ [41]) : Sim (p.take s) (q.take s) := by
 unfold PS.take
 rw [h.is_ hs]
 split
 · rename_i hc; exact h.adv (isS_lt hc).2
 · exact h
theorem Sim.need (h : Sim p q) {s : Bs} (hs : s ≠ [41]) (he : (p.need s).e = 0) : Sim (p.need s) (q.need s) := by
 unfold PS.need at he ⊢
 rw [h.is_ hs]
 split
 · rename_i hc; exact h.adv (isS_lt hc).2
 · rename_i hc
   rw [if_neg hc] at he
   exact absurd he (fail_e (by decide))
theorem Sim.val (h : Sim p q) {v : Vl} (hv : p.val = some v) : q.val = some v ∧ p.nx < p.L.length := by
 unfold PS.val at hv ⊢
 rw [if_pos h.e] at hv
 cases ht : p.L[p.nx]? with
 | none => rw [ht] at hv; cases hv
 | some t =>
   rw [ht] at hv
   obtain ⟨u, hu, hk, ht2, hn, hs, hm⟩ := h.inn p.nx t ht
   refine ⟨?_, (List.getElem?_eq_some_iff.1 ht).1⟩
   rw [if_pos h.e', h.nx, hu]
   simp only at hv ⊢
   unfold valT at hv ⊢
   rw [hk, ht2, hn, hs, hm]
   exact hv
theorem Sim.lit (h : Sim p q) (he : p.lit.2.e = 0) : q.lit.1 = p.lit.1 ∧ Sim p.lit.2 q.lit.2 := by
 have ht := h.take (s := [45]) (by decide)
 have hi := h.is_ (s := [45]) (by decide)
 unfold PS.lit at he ⊢
 cases hv : (p.take [45]).val with
 | none =>
   rw [hv] at he
   exact absurd he (fail_e (by decide))
 | some v =>
   obtain ⟨hq, hn⟩ := ht.val hv
   rw [hv] at he
   rw [hq, hi]
   simp only at he ⊢
   split
   · rename_i hm
     rw [if_pos hm] at he
     split
     · exact ⟨rfl, ht.adv hn⟩
     · rename_i hk
       rw [if_neg hk] at he
       exact absurd he (fail_e (by decide))
   · exact ⟨rfl, ht.adv hn⟩
theorem Sim.close (h : Sim p q) (he : p.close.e = 0) : Sim p.close q.close ∧ q.isS [41] = p.isS [41] ∧ q.isS [91] = p.isS [91] := by
 unfold PS.close at he ⊢
 by_cases hc : p.isS [93] = true ∨ p.isS [41] = true ∨ p.isS [91] = true
 · have hn : p.nx < p.L.length := by rcases hc with h | h | h <;> exact (isS_lt h).2
   have e1 : (if q.isS [93] = true ∨ q.isS [41] = true ∨ q.isS [91] = true then q.adv else q.fail 5) = q.adv := by
     rw [h.is_in hn, h.is_in hn, h.is_in hn]
     exact if_pos hc
   rw [e1, if_pos hc]
   exact ⟨h.adv hn, h.is_in hn _, h.is_in hn _⟩
 · rw [if_neg hc] at he
   exact absurd he (fail_e (by decide))
end
end Go.Proofs.YtapilekangmcoaaGreatDoor
namespace Go.Proofs.YtapilekangmcoaaGreatDoor
/-- An expression. -/
inductive Ex where
 | mk (op : Int) (v : Vl) (nm : Bs) (kids : List Ex)
def zeroE : Ex := .mk 0 zeroV [] []
def bIf : Bs := [105, 102]
def bThen : Bs := [116, 104, 101, 110]
def bElse : Bs := [101, 108, 115, 101]
def bNot : Bs := [110, 111, 116]
/-- The operators of a level, with their numbers; whether one stands alone. -/
def levelS : Nat → List (Bs × Int) × Bool
 | 0 => ([([111, 114], 15)], false)
 | 1 => ([([97, 110, 100], 14)], false)
 | 2 => ([([61], 8), ([33, 61], 9), ([60], 10), ([60, 61], 11), ([62], 12), ([62, 61], 13)], true)
 | 3 => ([([43], 4), ([45], 5)], false)
 | _ => ([([42], 6), ([47], 7)], false)
def PS.made (p : PS) : PS := if 4096 < p.md + 1 then ({ p with md := p.md + 1 } : PS).fail 10 else { p with md := p.md + 1 }
def PS.deep (p : PS) (d : Nat) : PS := if 64 < d then p.fail 9 else p
/-- Which operator of a level is next. -/
def PS.oper (p : PS) (n : Nat) : Option Int := ((levelS n).1.find? (fun g => p.isS g.1)).map (·.2)
mutual
def exprF (W : Bs → Bool) : Nat → PS → Nat → Ex × PS
 | 0, p, _ => (zeroE, p)
 | f + 1, p, d =>
   if (p.deep d).e = 0 ∧ (p.deep d).isS bIf = true then
     let a := exprF W f (p.deep d).adv d
     let b := exprF W f (a.2.need bThen) d
     let c := exprF W f (b.2.need bElse) d
     (.mk 17 zeroV [] [a.1, b.1, c.1], c.2.made)
   else chainF W f (p.deep d) d 0
def chainF (W : Bs → Bool) : Nat → PS → Nat → Nat → Ex × PS
 | 0, p, _, _ => (zeroE, p)
 | f + 1, p, d, n =>
   if 4 < n then prefixF W f p d
   else
     let x := chainF W f p d (n + 1)
     moreF W f x.1 x.2 d n
def moreF (W : Bs → Bool) : Nat → Ex → PS → Nat → Nat → Ex × PS
 | 0, x, p, _, _ => (x, p)
 | f + 1, x, p, d, n =>
   if p.e = 0 then
     match p.oper n with
     | none => (x, p)
     | some o =>
       let y := chainF W f p.adv d (n + 1)
       if (levelS n).2 then (.mk o zeroV [] [x, y.1], y.2.made) else moreF W f (.mk o zeroV [] [x, y.1]) y.2.made d n
   else (x, p)
def prefixF (W : Bs → Bool) : Nat → PS → Nat → Ex × PS
 | 0, p, _ => (zeroE, p)
 | f + 1, p, d =>
   if p.e = 0 then
     if p.isS [45] then
       let x := prefixF W f p.adv d
       (.mk 3 zeroV [] [x.1], x.2.made)
     else if p.isS [40] then
       let x := exprF W f p.adv (d + 1)
       (x.1, x.2.need [41])
     else if p.isS bNot then
       let x := exprF W f (p.adv.need [40]) (d + 1)
       (.mk 16 zeroV [] [x.1], (x.2.need [41]).made)
     else match p.val with
       | some v => (.mk 1 v [] [], p.adv.made)
       | none =>
         match p.L[p.nx]? with
         | none => (zeroE, p.fail 5)
         | some t => if t.k = 4 ∧ W t.t = true then (.mk 2 zeroV t.t [], p.made.adv) else (zeroE, p.fail 5)
   else (zeroE, p)
end
end Go.Proofs.YtapilekangmcoaaGreatDoor
