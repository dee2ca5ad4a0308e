/- The simplest expression: how it is read, and what is written of it, plainly. The walks of expr.NewParser and of expr.Parser's Value. Expressions in memory: eight cells each, the kids behind a slice. The walk of value.Sound, and what it says. What value.Sound says, in plain words. The walks of what expr.sound asks of an expression's kids. The walk of expr.sound at one expression. The walk of expr.Sound, for every expression. Reading an expression goes forward through the tokens: plainly. The walk of expr.Parser's Value. Printed by genval.py. The walk of expr.Parser's Value, in all its ways. The walks of expr's make and levels, and of what looks for an operator. How a call that reads an expression ends: what is asked of Expr, chain and prefix. The walk of expr.Parser's Expr. The walks through a whole expression: whether a name is in it, and whether it is great. Values and rows of structs that came in as an argument: how they read. -/
import Derived.Test.YtkkeplmaphcblaaGreatDoorK22
import Derived.Test.YtkkeplmaphcblaaGreatDoorK6
import Derived.Test.YtkkeplmaphcblaaGreatDoorK19
import Derived.Test.YtkkeplmaphcblaaGreatDoorK10
import Derived.Deep.QuietTactic
import Derived.BigQuiet
import Derived.Test.YtkkeplmaphcblaaGreatDoorK21
namespace Go.Proofs.YtkkeplmaphcblaaGreatDoor
open Go.RowKit

/-- a + 2 * -b = 3 and not(c) -/
def akB : Bs := [97, 32, 43, 32, 50, 32, 42, 32, 45, 98, 32, 61, 32, 51, 32, 97, 110, 100, 32, 110, 111, 116, 40, 99, 41]
def akT : Bs := [40, 40, 97, 32, 43, 32, 40, 50, 32, 42, 32, 40, 45, 98, 41, 41, 41, 32, 61, 32, 51, 41, 32, 97, 110, 100, 32, 40, 110, 111, 116, 40, 99, 41, 41]
def akV (n : Int) : Vl := ⟨1, n, 0, [], 0⟩
def akN (c : UInt8) : Ex := .mk 2 zeroV [c] []
def akX : Ex := .mk 14 zeroV [] [.mk 8 zeroV [] [.mk 4 zeroV [] [akN 97, .mk 6 zeroV [] [.mk 1 (akV 2) [] [], .mk 3 zeroV [] [akN 98]]], .mk 1 (akV 3) [] []], .mk 16 zeroV [] [akN 99]]
def nu (n : Int) : Tk := ⟨1, 0, [], n, 0, 0⟩
def akL : List Tk := [nm [97], sg [43], nu 2, sg [42], sg [45], nm [98], sg [61], nu 3, nm [97, 110, 100], nm bNot, sg [40], nm [99], sg [41]]
theorem ak_word {c : UInt8} (h : wordB [c] = true) {x : Lx} {M : Bs} {T : List Tk} (hM : Stop M) (hT : Reads x M T) : Reads x (c :: M) (nm [c] :: T) := by
  obtain ⟨h1, h2⟩ := word_next h x
  exact reads_tok (o := [c]) h1 h2 hM hT
theorem stop_blank (M : Bs) : Stop (32 :: M) := stop_of (by decide) (by decide) (by decide)
theorem ak_reads (m : Int) (w : World) (hw : OKW m w) : Reads (lxX m) akB akL := by
  have n2 := num_next m w hw 2 0 (by decide) (by decide)
  have n3 := num_next m w hw 3 0 (by decide) (by decide)
  have t2 : textU (2 : Int).toNat (0 : Int).toNat = [50] := by decide +kernel
  have t3 : textU (3 : Int).toNat (0 : Int).toNat = [51] := by decide +kernel
  rw [t2] at n2
  rw [t3] at n3
  refine ak_word (c := 97) (by decide) (stop_blank _) (reads_blank ?_)
  refine reads_sign (g := [43]) rfl rfl (by decide) (reads_blank ?_)
  refine reads_tok (o := [50]) n2.1 n2.2 (stop_blank _) (reads_blank ?_)
  refine reads_sign (g := [42]) rfl rfl (by decide) (reads_blank ?_)
  refine reads_sign (g := [45]) rfl rfl (by decide) ?_
  refine ak_word (c := 98) (by decide) (stop_blank _) (reads_blank ?_)
  refine reads_sign (g := [61]) rfl rfl (by decide) (reads_blank ?_)
  refine reads_tok (o := [51]) n3.1 n3.2 (stop_blank _) (reads_blank ?_)
  refine reads_tok (o := [97, 110, 100]) (tokE_next (o := 14) (by decide) (by decide) _).1 rfl (stop_blank _) (reads_blank ?_)
  refine reads_tok (o := [110, 111, 116]) rfl rfl (stop_of (by decide) (by decide) (by decide)) ?_
  refine reads_open (ak_word (c := 99) (by decide) (stop_of (by decide) (by decide) (by decide)) (reads_close (reads_nil _)))
theorem like_cons {t : Tk} {T L : List Tk} (h : like (t :: T) L) : ∃ a L', L = { t with a := a } :: L' ∧ like T L' := by
  match L, h with
  | u :: L', ⟨⟨h1, h2, h3, h4, h5⟩, h6⟩ =>
    obtain ⟨k, a, t', n, s, m⟩ := u
    simp only at h1 h2 h3 h4 h5
    subst h1 h2 h3 h4 h5
    exact ⟨a, L', rfl, h6⟩
theorem like_nil {L : List Tk} (h : like [] L) : L = [] := by
  match L, h with
  | [], _ => rfl
theorem ak_expr (a0 a1 a2 a3 a4 a5 a6 a7 a8 a9 a10 a11 a12 en a : Nat) (p : PS) (hp : p = ⟨[{ nm [97] with a := a0 }, { sg [43] with a := a1 }, { nu 2 with a := a2 }, { sg [42] with a := a3 }, { sg [45] with a := a4 }, { nm [98] with a := a5 }, { sg [61] with a := a6 }, { nu 3 with a := a7 }, { nm [97, 110, 100] with a := a8 }, { nm bNot with a := a9 }, { sg [40] with a := a10 }, { nm [99] with a := a11 }, { sg [41] with a := a12 }], 0, en, (a : Int), 0, 0⟩) :
    exprF wordB 600000 p 1 = (akX, { p with nx := 13, md := 11 }) := by
  subst hp
  kernel_rfl
theorem ak_sound : soundX akX = true := (soundX_iff akX).2 ⟨.bin 14 _ _ (by decide) (by decide) (.bin 8 _ _ (by decide) (by decide) (.bin 4 _ _ (by decide) (by decide) (.name _ (by decide)) (.bin 6 _ _ (by decide) (by decide) (.val _ (.inr (.inl ⟨rfl, by decide, rfl, rfl⟩)) (by decide)) (.neg _ (.name _ (by decide))))) (.val _ (.inr (.inl ⟨rfl, by decide, rfl, rfl⟩)) (by decide))) (.not _ (.name _ (by decide))), by decide, by decide⟩
theorem ak_parse (m : Int) (w : World) (hw : OKW m w) : exprS (lxX m) 600000 soundX akB = (akX, 0, 0) := by
  obtain ⟨hon, hmd⟩ := on_new (by decide) (ak_reads m w hw)
  have hlk := hon.lk
  have hnx : (newP (toksS (lxX m) akB) akB.length).nx = 0 := rfl
  have he := hon.e
  unfold exprS
  generalize hP : newP (toksS (lxX m) akB) akB.length = p at hlk hnx he hmd ⊢
  obtain ⟨L, nx, en, a, e, md⟩ := p
  simp only at hnx he hmd hlk
  subst hnx he hmd
  rw [List.drop_zero] at hlk
  obtain ⟨a0, L0, rfl, l0⟩ := like_cons hlk
  obtain ⟨a1, L1, rfl, l1⟩ := like_cons l0
  obtain ⟨a2, L2, rfl, l2⟩ := like_cons l1
  obtain ⟨a3, L3, rfl, l3⟩ := like_cons l2
  obtain ⟨a4, L4, rfl, l4⟩ := like_cons l3
  obtain ⟨a5, L5, rfl, l5⟩ := like_cons l4
  obtain ⟨a6, L6, rfl, l6⟩ := like_cons l5
  obtain ⟨a7, L7, rfl, l7⟩ := like_cons l6
  obtain ⟨a8, L8, rfl, l8⟩ := like_cons l7
  obtain ⟨a9, L9, rfl, l9⟩ := like_cons l8
  obtain ⟨a10, L10, rfl, l10⟩ := like_cons l9
  obtain ⟨a11, L11, rfl, l11⟩ := like_cons l10
  obtain ⟨a12, L12, rfl, l12⟩ := like_cons l11
  obtain rfl := like_nil l12
  have ha : a = (((toksS (lxX m) akB).n : Nat) : Int) := (congrArg PS.a hP).symm
  rw [ak_expr a0 a1 a2 a3 a4 a5 a6 a7 a8 a9 a10 a11 a12 en _ _ (by rw [ha])]
  dsimp only
  rw [ak_sound]
  exact rfl
theorem ak_text : etxt akX = akT := by
  unfold akX akN
  simp only [etxt]
  decide +kernel
/-- What Text answers. -/
noncomputable def textX (x : Ex) : Bs × Int := if soundX x = true then (if 65536 < (etxt x).length then ([], 10) else (etxt x, 0)) else ([], 2)
end Go.Proofs.YtkkeplmaphcblaaGreatDoor

namespace Go.Proofs.YtkkeplmaphcblaaGreatDoor
open Go.RowKit

set_option maxHeartbeats 4000000 in
set_option maxRecDepth 100000 in
theorem newp_any (m : Int) (s : ByteArray) (l : Bs) (hl : s.data.toList = l) (w : World) (hw : OKW m w) :
    Calls Tryz.prog 41 #[.string s] w fun e w' => ∃ b A c, e = .returned (.pointer (some ⟨b, 0, none⟩)) ∧ w.heap.size ≤ b ∧ PB w' b A c (newP (toksS (lxX m) l) l.length) ∧ Below w.heap.size w w' := by
  have H1 := Lib.hid (tokens_all (lxX m) m (lx_ok m) s l hl w hw)
  obtain ⟨T, hT⟩ : ∃ T, toksS (lxX m) l = T := ⟨_, rfl⟩
  have hbig : T.l.length ≤ 100000 := by have := (toksS_ok m w hw l).2.2; rw [hT] at this; omega
  have hsz : (s.size : Int) = (l.length : Int) := by rw [← hl]; simp
  rw [hT] at H1 ⊢
  have HB := Lib.hid hbig
  have HS := Lib.hid hsz
  clear hl hw hT hbig hsz
  go_enter Tryz.func41, Tryz.ntmps41
  go_wp2_with fail
  refine H1.out.mono ?_
  rintro e w1 ⟨⟨A, c, rfl, hTM, hc, hcm⟩, hb1⟩
  have K1 := Lib.hid hTM
  clear hTM
  go_wp2_with fail
  go_returns
  refine ⟨w1.heap.size, A, c, rfl, hb1.size, ⟨?_, ?_, ?_, Nat.zero_le _, HB.out⟩, by (repeat' (first | (with_reducible exact Below.refl _ _) | (with_reducible assumption) | (with_reducible refine balloc ?_ _) | (with_reducible refine Below.drew ?_) | (with_reducible refine bset ?_ ?_ _) | (with_reducible refine bstep ?_ (by with_reducible assumption)) | (with_reducible refine bturn ?_ (by with_reducible assumption) ?_) | go_size))⟩
  · rw [HS.out]
    exact Blk.new _ _ _
  · exact K1.out.step ((Below.refl _ _).alloc (Nat.le_refl _) _)
  · rintro i t g o ht rfl
    obtain ⟨g', o', e', hc'⟩ := K1.out i t ht
    injection e' with e'
    injection e' with e1 e2
    have := block_lt_of_cell (hc' 0 _ rfl)
    simp only at this
    omega

set_option maxHeartbeats 8000000 in
set_option maxRecDepth 100000 in
theorem value_none (b : Nat) (A : Option Addr) (c : Nat) (p : PS) (w : World) (h : PB w b A c p) (hv : ¬ p.e = 0 ∨ p.L.length ≤ p.nx) :
    Calls Tryz.prog 168 #[.pointer (some ⟨b, 0, none⟩)] w fun e w' => e = .returned (.tuple #[.agg #[.int .i64 0, .int .i64 0, .int .i64 0, .string ⟨#[]⟩, .int .i64 0], .bool false]) ∧ Below w.heap.size w w' := by
  have H := Lib.hid h
  by_cases he : p.e = 0
  · have hni : (p.L.length : Int) ≤ (p.nx : Int) := by
      rcases hv with h | h
      · exact absurd he h
      · omega
    have hbp := (h).blk; have hlp := hbp.lt; have hllp := lts hlp; have qp0 := hbp.cell 0; have qp1 := hbp.cell 1; have qp2 := hbp.cell 2; have qp3 := hbp.cell 3; have qp4 := hbp.cell 4; have qp5 := hbp.cell 5; simp at qp0 qp1 qp2 qp3 qp4 qp5; have zp0 := hbp.frozen 0; have zp1 := hbp.frozen 1; have zp2 := hbp.frozen 2; have zp3 := hbp.frozen 3; have zp4 := hbp.frozen 4; have zp5 := hbp.frozen 5; have Hhbp := Lib.hid hbp; clear hbp
    rw [he] at qp4
    clear h he hv
    go_enter Tryz.func168, Tryz.ntmps168
    go_wp2_with fail
    go_quiet (fail)
    have k1 : Blk ((w.alloc (.cells #[.int .i64 0, .int .i64 0, .int .i64 0, .string ⟨#[]⟩, .int .i64 0] 25)).drewN nq) w.heap.size 25 #[.int .i64 0, .int .i64 0, .int .i64 0, .string ⟨#[]⟩, .int .i64 0] := (Blk.new _ _ _).drewN nq
    go_wp2_with (refine wpList_store_blk k1 rfl _ _ _ (by rfl) _ (by rfl) (by rfl) (by (repeat (first | (with_reducible exact k1) | (with_reducible refine Blk.alloc ?_ _) | (with_reducible refine Blk.drew ?_) | (with_reducible refine Blk.far ?_ (by first | (simp; done) | (simp; omega)) _) | (with_reducible refine Blk.turn ?_ (by with_reducible assumption) (by omega))))) (by rfl) (by kernel_rfl) (by simp [Value.oneCell']) ?_; intro wt k1n ht)
    refine ret_blk2 rfl k1n rfl Tryz.underlying25 rfl (by kernel_rfl) rfl ?_
    exact ⟨rfl, by (repeat' (first | (with_reducible refine bdrewN ?_ _) | (with_reducible exact Below.refl _ _) | (with_reducible assumption) | (with_reducible refine balloc ?_ _) | (with_reducible refine Below.drew ?_) | (with_reducible refine bset ?_ ?_ _) | (with_reducible refine bstep ?_ (by with_reducible assumption)) | (with_reducible refine bturn ?_ (by with_reducible assumption) ?_) | go_size))⟩
  · have heb : (p.e != 0) = true := by simpa using he
    have hbp := (h).blk; have hlp := hbp.lt; have hllp := lts hlp; have qp0 := hbp.cell 0; have qp1 := hbp.cell 1; have qp2 := hbp.cell 2; have qp3 := hbp.cell 3; have qp4 := hbp.cell 4; have qp5 := hbp.cell 5; simp at qp0 qp1 qp2 qp3 qp4 qp5; have zp0 := hbp.frozen 0; have zp1 := hbp.frozen 1; have zp2 := hbp.frozen 2; have zp3 := hbp.frozen 3; have zp4 := hbp.frozen 4; have zp5 := hbp.frozen 5; have Hhbp := Lib.hid hbp; clear hbp
    clear h hv
    go_enter Tryz.func168, Tryz.ntmps168
    go_wp2_with fail
    go_quiet (fail)
    have k1 : Blk ((w.alloc (.cells #[.int .i64 0, .int .i64 0, .int .i64 0, .string ⟨#[]⟩, .int .i64 0] 25)).drewN nq) w.heap.size 25 #[.int .i64 0, .int .i64 0, .int .i64 0, .string ⟨#[]⟩, .int .i64 0] := (Blk.new _ _ _).drewN nq
    go_wp2_with (refine wpList_store_blk k1 rfl _ _ _ (by rfl) _ (by rfl) (by rfl) (by (repeat (first | (with_reducible exact k1) | (with_reducible refine Blk.alloc ?_ _) | (with_reducible refine Blk.drew ?_) | (with_reducible refine Blk.far ?_ (by first | (simp; done) | (simp; omega)) _) | (with_reducible refine Blk.turn ?_ (by with_reducible assumption) (by omega))))) (by rfl) (by kernel_rfl) (by simp [Value.oneCell']) ?_; intro wt k1n ht)
    refine ret_blk2 rfl k1n rfl Tryz.underlying25 rfl (by kernel_rfl) rfl ?_
    exact ⟨rfl, by (repeat' (first | (with_reducible refine bdrewN ?_ _) | (with_reducible exact Below.refl _ _) | (with_reducible assumption) | (with_reducible refine balloc ?_ _) | (with_reducible refine Below.drew ?_) | (with_reducible refine bset ?_ ?_ _) | (with_reducible refine bstep ?_ (by with_reducible assumption)) | (with_reducible refine bturn ?_ (by with_reducible assumption) ?_) | go_size))⟩

/-- A value's cells. -/
def cellsV (v : Vl) : Array Value := #[.int .i64 v.k, .int .i64 v.n, .int .i64 v.s, .string (bs v.t), .int .i64 v.m]
end Go.Proofs.YtkkeplmaphcblaaGreatDoor

namespace Go.Proofs.YtkkeplmaphcblaaGreatDoor
open Go.RowKit

/-- An expression's cells; K is the slice of its kids. -/
def cellsE (o : Int) (v : Vl) (s : Bs) (K : Value) : Array Value := #[.int .i64 o, .int .i64 v.k, .int .i64 v.n, .int .i64 v.s, .string (bs v.t), .int .i64 v.m, .string (bs s), K]
/-- Cells cs are the expression x, whose kids lie in blocks of S. -/
inductive XM (S : Nat → Prop) (w : World) : Ex → Array Value → Prop
  | mk (o : Int) (v : Vl) (s : Bs) (kids : List Ex) (A : Option Addr) (c : Nat) (f : Nat → Array Value) (hn : kids.length ≤ maxLen)
      (hk : ∀ i k, kids[i]? = some k → XM S w k (f i))
      (hc : ∀ i k, kids[i]? = some k → ∃ g b, A = some ⟨g, b, none⟩ ∧ S g ∧ ∀ j u, (f i)[j]? = some u → w.cell? ⟨g, b + i * 8 + j, none⟩ = some u) :
      XM S w (.mk o v s kids) (cellsE o v s (.slice A kids.length c))
section
variable {S T : Nat → Prop} {w w' : World} {x a b d : Ex} {cs ca cb cd : Array Value} {o : Int} {v : Vl} {s : Bs} {kids : List Ex}
theorem XM.keep (h : XM S w x cs) (hk : ∀ g, S g → g < w.heap.size → w'.heap[g]? = w.heap[g]?) : XM S w' x cs := by
  induction h with
  | mk o v s kids A c f hn _ hc ih =>
    refine .mk o v s kids A c f hn ih fun i k hi => ?_
    obtain ⟨g, b, e, hs, hj⟩ := hc i k hi
    exact ⟨g, b, e, hs, fun j u hu => (World.cell?_of_block (hk g hs (block_lt_of_cell (hj j u hu)))).trans (hj j u hu)⟩
theorem XM.mono (h : XM S w x cs) (hst : ∀ g, S g → g < w.heap.size → T g) : XM T w x cs := by
  induction h with
  | mk o v s kids A c f hn _ hc ih =>
    refine .mk o v s kids A c f hn ih fun i k hi => ?_
    obtain ⟨g, b, e, hs, hj⟩ := hc i k hi
    refine ⟨g, b, e, ?_, hj⟩
    cases hu : (f i)[0]? with
    | some u => exact hst g hs (block_lt_of_cell (hj 0 u hu))
    | none =>
      have := ih i k hi
      generalize f i = y at this hu
      cases this with
      | mk o v s kids A c f hn hk hc => simp [cellsE] at hu
theorem XM.step (h : XM S w x cs) (hb : Below w.heap.size w w') : XM S w' x cs := h.keep fun g _ hg => hb.block g hg
theorem XM.gr {B : Nat} (h : XM S w x cs) (hb : Gr B w w') (hn : ∀ g, S g → g ≠ B) : XM S w' x cs := h.keep fun g hs hg => hb.block g hg (hn g hs)
theorem XM.turn {B : Nat} (h : XM S w x cs) (ht : Turned w w' B) (hn : ∀ g, S g → g ≠ B) : XM S w' x cs := h.keep fun g hs _ => ht.block g (hn g hs)
theorem XM.inv (h : XM S w x cs) : ∃ (A : Option Addr) (c : Nat) (f : Nat → Array Value), cs = cellsE x.op x.v x.nm (.slice A x.kids.length c) ∧ x.kids.length ≤ maxLen ∧ (∀ i k, x.kids[i]? = some k → XM S w k (f i)) ∧
    ∀ i k, x.kids[i]? = some k → ∃ g b, A = some ⟨g, b, none⟩ ∧ S g ∧ ∀ j u, (f i)[j]? = some u → w.cell? ⟨g, b + i * 8 + j, none⟩ = some u := by
  cases h with
  | mk o v s kids A c f hn hk hc => exact ⟨A, c, f, rfl, hn, hk, hc⟩
/-- The eight cells, by name. -/
theorem XM.get (h : XM S w x cs) : ∃ (A : Option Addr) (c : Nat), cs = #[.int .i64 x.op, .int .i64 x.v.k, .int .i64 x.v.n, .int .i64 x.v.s, .string (bs x.v.t), .int .i64 x.v.m, .string (bs x.nm), .slice A x.kids.length c] := by
  obtain ⟨A, c, f, h, _⟩ := h.inv
  exact ⟨A, c, h⟩
theorem XM.size (h : XM S w x cs) : cs.size = 8 := by
  obtain ⟨A, c, rfl⟩ := h.get
  rfl
theorem XM.nil (A : Option Addr) (c : Nat) : XM S w (.mk o v s []) (cellsE o v s (.slice A 0 c)) := .mk o v s [] A c (fun _ => #[]) (Nat.zero_le _) (fun i k h => by simp at h) (fun i k h => by simp at h)
theorem zero_xm : XM S w zeroE #[.int .i64 0, .int .i64 0, .int .i64 0, .int .i64 0, .string ⟨#[]⟩, .int .i64 0, .string ⟨#[]⟩, .slice none 0 0] := XM.nil none 0
theorem get_flat : ∀ (CS : List (Array Value)), (∀ c ∈ CS, c.size = 8) → ∀ (i : Nat) (c : Array Value) (j : Nat) (u : Value), CS[i]? = some c → c[j]? = some u → (CS.flatMap Array.toList)[i * 8 + j]? = some u
  | [], _, i, c, j, u, h, _ => by simp at h
  | d :: CS, hz, 0, c, j, u, h, hj => by
    obtain rfl : d = c := by simpa using h
    have hl : j < d.size := (Array.getElem?_eq_some_iff.1 hj).1
    rw [List.flatMap_cons, Nat.zero_mul, Nat.zero_add, List.getElem?_append_left (by simpa using hl)]
    simpa using hj
  | d :: CS, hz, i + 1, c, j, u, h, hj => by
    have hs : d.size = 8 := hz d (List.mem_cons_self ..)
    have hs2 : d.toList.length = 8 := by simpa using hs
    have he : (i + 1) * 8 = i * 8 + 8 := Nat.succ_mul i 8
    rw [List.flatMap_cons, List.getElem?_append_right (by omega), hs2, show (i + 1) * 8 + j - 8 = i * 8 + j by omega]
    exact get_flat CS (fun c hc => hz c (List.mem_cons_of_mem _ hc)) i c j u (by simpa using h) hj
/-- An expression whose kids lie in one block. -/
theorem XM.row {CS : List (Array Value)} {g : Nat} {ty : TypeId} {es : Array Value} (hB : Blk w g ty es) (he : es.toList = CS.flatMap Array.toList) (hs : S g) (hl : kids.length = CS.length) (hn : kids.length ≤ maxLen)
    (hk : ∀ (i : Nat) (k : Ex) (c : Array Value), kids[i]? = some k → CS[i]? = some c → XM S w k c) (c : Nat) : XM S w (.mk o v s kids) (cellsE o v s (.slice (some ⟨g, 0, none⟩) kids.length c)) := by
  have hlt : ∀ i k, kids[i]? = some k → ∃ c, CS[i]? = some c := fun i k h => ⟨CS[i]'(by rw [← hl]; exact (List.getElem?_eq_some_iff.1 h).1), List.getElem?_eq_getElem _⟩
  have hz : ∀ c ∈ CS, c.size = 8 := fun c hc => by
    obtain ⟨i, hi⟩ := List.mem_iff_getElem?.1 hc
    have hil : i < kids.length := by rw [hl]; exact (List.getElem?_eq_some_iff.1 hi).1
    exact (hk i _ c (List.getElem?_eq_getElem hil) hi).size
  refine .mk o v s kids _ c (fun i => (CS[i]?).getD #[]) hn (fun i k h => ?_) fun i k h => ?_
  · obtain ⟨c, hc⟩ := hlt i k h
    show XM S w k ((CS[i]?).getD #[])
    rw [hc]
    exact hk i k c h hc
  · obtain ⟨c, hc⟩ := hlt i k h
    refine ⟨g, 0, rfl, hs, fun j u hu => ?_⟩
    have hu2 : c[j]? = some u := by
      have : ((CS[i]?).getD #[])[j]? = some u := hu
      rw [hc] at this
      exact this
    have := get_flat CS hz i c j u hc hu2
    rw [Nat.zero_add, hB.cell, ← Array.getElem?_toList, he]
    exact this
theorem XM.one {g : Nat} {ty : TypeId} {es : Array Value} (hB : Blk w g ty es) (he : es.toList = ca.toList) (hs : S g) (ha : XM S w a ca) (c : Nat) : XM S w (.mk o v s [a]) (cellsE o v s (.slice (some ⟨g, 0, none⟩) 1 c)) := by
  refine XM.row (CS := [ca]) hB (by simpa using he) hs rfl (by simp [maxLen]) (fun i k d h1 h2 => ?_) c
  match i, h1, h2 with
  | 0, h1, h2 =>
    obtain rfl : a = k := by simpa using h1
    obtain rfl : ca = d := by simpa using h2
    exact ha
  | i + 1, h1, h2 => simp at h1
theorem XM.two {g : Nat} {ty : TypeId} {es : Array Value} (hB : Blk w g ty es) (he : es.toList = ca.toList ++ cb.toList) (hs : S g) (ha : XM S w a ca) (hb : XM S w b cb) (c : Nat) : XM S w (.mk o v s [a, b]) (cellsE o v s (.slice (some ⟨g, 0, none⟩) 2 c)) := by
  refine XM.row (CS := [ca, cb]) hB (by simpa using he) hs rfl (by simp [maxLen]) (fun i k d h1 h2 => ?_) c
  match i, h1, h2 with
  | 0, h1, h2 =>
    obtain rfl : a = k := by simpa using h1
    obtain rfl : ca = d := by simpa using h2
    exact ha
  | 1, h1, h2 =>
    obtain rfl : b = k := by simpa using h1
    obtain rfl : cb = d := by simpa using h2
    exact hb
  | i + 2, h1, h2 => simp at h1
theorem XM.three {g : Nat} {ty : TypeId} {es : Array Value} (hB : Blk w g ty es) (he : es.toList = ca.toList ++ (cb.toList ++ cd.toList)) (hs : S g) (ha : XM S w a ca) (hb : XM S w b cb) (hd : XM S w d cd) (c : Nat) : XM S w (.mk o v s [a, b, d]) (cellsE o v s (.slice (some ⟨g, 0, none⟩) 3 c)) := by
  refine XM.row (CS := [ca, cb, cd]) hB (by simpa using he) hs rfl (by simp [maxLen]) (fun i k e h1 h2 => ?_) c
  match i, h1, h2 with
  | 0, h1, h2 =>
    obtain rfl : a = k := by simpa using h1
    obtain rfl : ca = e := by simpa using h2
    exact ha
  | 1, h1, h2 =>
    obtain rfl : b = k := by simpa using h1
    obtain rfl : cb = e := by simpa using h2
    exact hb
  | 2, h1, h2 =>
    obtain rfl : d = k := by simpa using h1
    obtain rfl : cd = e := by simpa using h2
    exact hd
  | i + 3, h1, h2 => simp at h1
end
end Go.Proofs.YtkkeplmaphcblaaGreatDoor

namespace Go.Proofs.YtkkeplmaphcblaaGreatDoor
open Go.RowKit
open Go.Lib hiding intOf

/-- Are two values one? -/
def vlq (a b c : Int) (d : ByteArray) (f a' b' c' : Int) (d' : ByteArray) (f' : Int) : Bool := a == a' && (b == b' && (c == c' && (d.toList == d'.toList && f == f')))
theorem run_vl_eql (w : World) (a b c : Int) (d : ByteArray) (f a' b' c' : Int) (d' : ByteArray) (f' : Int) :
    (binOp .eql 25 (.agg #[.int .i64 a, .int .i64 b, .int .i64 c, .string d, .int .i64 f]) (.agg #[.int .i64 a', .int .i64 b', .int .i64 c', .string d', .int .i64 f'])).run Tryz.prog w
      = .ok (.bool (vlq a b c d f a' b' c' d' f')) w := by
  go_simp
  unfold vlq
  by_cases h1 : a = a' <;> by_cases h2 : b = b' <;> by_cases h3 : c = c' <;> by_cases h4 : d.toList = d'.toList <;> by_cases h5 : f = f' <;> simp [h1, h2, h3, h4, h5]
theorem run_vl_neq (w : World) (a b c : Int) (d : ByteArray) (f a' b' c' : Int) (d' : ByteArray) (f' : Int) :
    (binOp .neq 25 (.agg #[.int .i64 a, .int .i64 b, .int .i64 c, .string d, .int .i64 f]) (.agg #[.int .i64 a', .int .i64 b', .int .i64 c', .string d', .int .i64 f'])).run Tryz.prog w
      = .ok (.bool (!vlq a b c d f a' b' c' d' f')) w := by
  go_simp
  unfold vlq
  by_cases h1 : a = a' <;> by_cases h2 : b = b' <;> by_cases h3 : c = c' <;> by_cases h4 : d.toList = d'.toList <;> by_cases h5 : f = f' <;> simp [h1, h2, h3, h4, h5]
attribute [local go_sem high] run_vl_eql run_vl_neq

/-- What value.Sound says. -/
def vS (k n s : Int) (q : ByteArray) (m : Int) : Bool :=
  if k = 0 then vlq 0 n s q m 0 0 0 ⟨#[]⟩ 0
  else if k = 1 then vlq 1 n s q m 1 n s ⟨#[]⟩ 0 && soundS n s
  else if k = 2 then vlq 2 n s q m 2 0 0 q 0 && (decide ((q.size : Int) ≤ 256) && goodS q)
  else if k = 3 then vlq 3 n s q m 3 0 0 ⟨#[]⟩ (bits .and .i64 m 1)
  else if k = 4 then vlq 4 n s q m 4 0 0 ⟨#[]⟩ (max 0 (min m 3652058))
  else false
set_option maxHeartbeats 8000000 in
set_option maxRecDepth 100000 in
theorem vs_0 (n s : Int) (q : ByteArray) (m : Int) (w : World) :
    Calls Tryz.prog 48 #[.agg #[.int .i64 0, .int .i64 n, .int .i64 s, .string q, .int .i64 m]] w fun e w' => e = .returned (.bool (vlq 0 n s q m 0 0 0 ⟨#[]⟩ 0)) ∧ Below w.heap.size w w' := by
  go_enter Tryz.func48, Tryz.ntmps48
  go_wp2_with fail
  go_returns
  exact ⟨rfl, by (repeat' (first | (with_reducible refine bdrewN ?_ _) | (with_reducible exact Below.refl _ _) | (with_reducible assumption) | (with_reducible refine balloc ?_ _) | (with_reducible refine Below.drew ?_) | (with_reducible refine bset ?_ ?_ _) | (with_reducible refine bstep ?_ (by with_reducible assumption)) | (with_reducible refine bturn ?_ (by with_reducible assumption) ?_) | go_size))⟩
set_option maxHeartbeats 8000000 in
set_option maxRecDepth 100000 in
theorem vs_4 (n s : Int) (q : ByteArray) (m : Int) (w : World) :
    Calls Tryz.prog 48 #[.agg #[.int .i64 4, .int .i64 n, .int .i64 s, .string q, .int .i64 m]] w fun e w' => e = .returned (.bool (vlq 4 n s q m 4 0 0 ⟨#[]⟩ (max 0 (min m 3652058)))) ∧ Below w.heap.size w w' := by
  go_enter Tryz.func48, Tryz.ntmps48
  go_wp2_with fail
  go_returns
  exact ⟨rfl, by (repeat' (first | (with_reducible refine bdrewN ?_ _) | (with_reducible exact Below.refl _ _) | (with_reducible assumption) | (with_reducible refine balloc ?_ _) | (with_reducible refine Below.drew ?_) | (with_reducible refine bset ?_ ?_ _) | (with_reducible refine bstep ?_ (by with_reducible assumption)) | (with_reducible refine bturn ?_ (by with_reducible assumption) ?_) | go_size))⟩
set_option maxHeartbeats 8000000 in
set_option maxRecDepth 100000 in
theorem vs_3 (n s : Int) (q : ByteArray) (m : Int) (w : World) :
    Calls Tryz.prog 48 #[.agg #[.int .i64 3, .int .i64 n, .int .i64 s, .string q, .int .i64 m]] w fun e w' => e = .returned (.bool (vlq 3 n s q m 3 0 0 ⟨#[]⟩ (bits .and .i64 m 1))) ∧ Below w.heap.size w w' := by
  go_enter Tryz.func48, Tryz.ntmps48
  go_wp2_with fail
  go_returns
  exact ⟨rfl, by (repeat' (first | (with_reducible refine bdrewN ?_ _) | (with_reducible exact Below.refl _ _) | (with_reducible assumption) | (with_reducible refine balloc ?_ _) | (with_reducible refine Below.drew ?_) | (with_reducible refine bset ?_ ?_ _) | (with_reducible refine bstep ?_ (by with_reducible assumption)) | (with_reducible refine bturn ?_ (by with_reducible assumption) ?_) | go_size))⟩
set_option maxHeartbeats 8000000 in
set_option maxRecDepth 100000 in
theorem vs_no (k n s : Int) (q : ByteArray) (m : Int) (h0 : ¬ k = 0) (h1 : ¬ k = 1) (h2 : ¬ k = 2) (h3 : ¬ k = 3) (h4 : ¬ k = 4) (w : World) :
    Calls Tryz.prog 48 #[.agg #[.int .i64 k, .int .i64 n, .int .i64 s, .string q, .int .i64 m]] w fun e w' => e = .returned (.bool false) ∧ Below w.heap.size w w' := by
  go_enter Tryz.func48, Tryz.ntmps48
  go_wp2_with fail
  go_returns
  exact ⟨rfl, by (repeat' (first | (with_reducible refine bdrewN ?_ _) | (with_reducible exact Below.refl _ _) | (with_reducible assumption) | (with_reducible refine balloc ?_ _) | (with_reducible refine Below.drew ?_) | (with_reducible refine bset ?_ ?_ _) | (with_reducible refine bstep ?_ (by with_reducible assumption)) | (with_reducible refine bturn ?_ (by with_reducible assumption) ?_) | go_size))⟩
set_option maxHeartbeats 8000000 in
set_option maxRecDepth 100000 in
theorem vs_1 (n s : Int) (q : ByteArray) (m : Int) (hn : I64 n) (hs : I64 s) (w : World) :
    Calls Tryz.prog 48 #[.agg #[.int .i64 1, .int .i64 n, .int .i64 s, .string q, .int .i64 m]] w fun e w' => e = .returned (.bool (vlq 1 n s q m 1 n s ⟨#[]⟩ 0 && soundS n s)) ∧ Below w.heap.size w w' := by
  have KS := Lib.hid (sound_any n s hn.1 hn.2 hs.1 hs.2)
  cases hv : vlq 1 n s q m 1 n s ⟨#[]⟩ 0 with
  | false =>
    go_enter Tryz.func48, Tryz.ntmps48
    go_wp2_with fail
    go_returns
    exact ⟨rfl, by (repeat' (first | (with_reducible refine bdrewN ?_ _) | (with_reducible exact Below.refl _ _) | (with_reducible assumption) | (with_reducible refine balloc ?_ _) | (with_reducible refine Below.drew ?_) | (with_reducible refine bset ?_ ?_ _) | (with_reducible refine bstep ?_ (by with_reducible assumption)) | (with_reducible refine bturn ?_ (by with_reducible assumption) ?_) | go_size))⟩
  | true =>
    go_enter Tryz.func48, Tryz.ntmps48
    go_wp2_with (go_at_call 80; refine (KS.out _).mono ?_; rintro e w1 ⟨rfl, hb1⟩)
    go_returns
    exact ⟨rfl, by (repeat' (first | (with_reducible refine bdrewN ?_ _) | (with_reducible exact Below.refl _ _) | (with_reducible assumption) | (with_reducible refine balloc ?_ _) | (with_reducible refine Below.drew ?_) | (with_reducible refine bset ?_ ?_ _) | (with_reducible refine bstep ?_ (by with_reducible assumption)) | (with_reducible refine bturn ?_ (by with_reducible assumption) ?_) | go_size))⟩
set_option maxHeartbeats 8000000 in
set_option maxRecDepth 100000 in
theorem vs_2 (n s : Int) (q : ByteArray) (m : Int) (mm : Int) (w : World) (hw : OKW mm w) :
    Calls Tryz.prog 48 #[.agg #[.int .i64 2, .int .i64 n, .int .i64 s, .string q, .int .i64 m]] w fun e w' => e = .returned (.bool (vlq 2 n s q m 2 0 0 q 0 && (decide ((q.size : Int) ≤ 256) && goodS q))) ∧ Below w.heap.size w w' := by
  have KS := Lib.hid (fun W hW => good_any q (goodS q) rfl W hW)
  have HT := Lib.hid (fun W (hb : Below w.heap.size w W) => (hw.step hb).u8)
  cases hv : vlq 2 n s q m 2 0 0 q 0 with
  | false =>
    go_enter Tryz.func48, Tryz.ntmps48
    go_wp2_with fail
    go_returns
    exact ⟨rfl, by (repeat' (first | (with_reducible refine bdrewN ?_ _) | (with_reducible exact Below.refl _ _) | (with_reducible assumption) | (with_reducible refine balloc ?_ _) | (with_reducible refine Below.drew ?_) | (with_reducible refine bset ?_ ?_ _) | (with_reducible refine bstep ?_ (by with_reducible assumption)) | (with_reducible refine bturn ?_ (by with_reducible assumption) ?_) | go_size))⟩
  | true =>
    by_cases hl : (q.size : Int) ≤ 256
    · rw [decide_eq_true hl]
      go_enter Tryz.func48, Tryz.ntmps48
      go_wp2_with (go_at_call 81; refine (KS.out _ (HT.out _ (by (repeat' (first | (with_reducible exact Below.refl _ _) | (with_reducible assumption) | (with_reducible refine balloc ?_ _) | (with_reducible refine Below.drew ?_) | (with_reducible refine bset ?_ ?_ _) | (with_reducible refine bstep ?_ (by with_reducible assumption)) | (with_reducible refine bturn ?_ (by with_reducible assumption) ?_) | go_size))))).mono ?_; rintro e w1 ⟨rfl, hb1⟩)
      go_returns
      exact ⟨rfl, by (repeat' (first | (with_reducible refine bdrewN ?_ _) | (with_reducible exact Below.refl _ _) | (with_reducible assumption) | (with_reducible refine balloc ?_ _) | (with_reducible refine Below.drew ?_) | (with_reducible refine bset ?_ ?_ _) | (with_reducible refine bstep ?_ (by with_reducible assumption)) | (with_reducible refine bturn ?_ (by with_reducible assumption) ?_) | go_size))⟩
    · rw [decide_eq_false hl]
      go_enter Tryz.func48, Tryz.ntmps48
      go_wp2_with fail
      go_returns
      exact ⟨rfl, by (repeat' (first | (with_reducible refine bdrewN ?_ _) | (with_reducible exact Below.refl _ _) | (with_reducible assumption) | (with_reducible refine balloc ?_ _) | (with_reducible refine Below.drew ?_) | (with_reducible refine bset ?_ ?_ _) | (with_reducible refine bstep ?_ (by with_reducible assumption)) | (with_reducible refine bturn ?_ (by with_reducible assumption) ?_) | go_size))⟩
theorem vs_any (k n s : Int) (q : ByteArray) (m : Int) (hn : I64 n) (hs : I64 s) (mm : Int) (w : World) (hw : OKW mm w) :
    Calls Tryz.prog 48 #[.agg #[.int .i64 k, .int .i64 n, .int .i64 s, .string q, .int .i64 m]] w fun e w' => e = .returned (.bool (vS k n s q m)) ∧ Below w.heap.size w w' := by
  unfold vS
  by_cases h0 : k = 0
  · subst h0
    exact vs_0 n s q m w
  · rw [if_neg h0]
    by_cases h1 : k = 1
    · subst h1
      exact vs_1 n s q m hn hs w
    · rw [if_neg h1]
      by_cases h2 : k = 2
      · subst h2
        exact vs_2 n s q m mm w hw
      · rw [if_neg h2]
        by_cases h3 : k = 3
        · subst h3
          exact vs_3 n s q m w
        · rw [if_neg h3]
          by_cases h4 : k = 4
          · subst h4
            exact vs_4 n s q m w
          · rw [if_neg h4]
            exact vs_no k n s q m h0 h1 h2 h3 h4 w
end Go.Proofs.YtkkeplmaphcblaaGreatDoor

namespace Go.Proofs.YtkkeplmaphcblaaGreatDoor
open Go.RowKit

theorem and_one (m : Int) : bits .and .i64 m 1 = 0 ∨ bits .and .i64 m 1 = 1 := by
  unfold bits
  simp only
  have h : (BitVec.ofInt IntKind.i64.bits m &&& BitVec.ofInt IntKind.i64.bits 1).toNat = (BitVec.ofInt IntKind.i64.bits m).toNat % 2 := by
    rw [BitVec.toNat_and, show (BitVec.ofInt IntKind.i64.bits 1).toNat = 1 by decide]
    exact Nat.and_one_is_mod _
  rw [h]
  rcases Nat.mod_two_eq_zero_or_one (BitVec.ofInt IntKind.i64.bits m).toNat with h | h <;> rw [h]
  · exact .inl (by decide)
  · exact .inr (by decide)
theorem vlq_iff {a b c : Int} {d : ByteArray} {f a' b' c' : Int} {d' : ByteArray} {f' : Int} : vlq a b c d f a' b' c' d' f' = true ↔ a = a' ∧ b = b' ∧ c = c' ∧ d.toList = d'.toList ∧ f = f' := by
  unfold vlq
  simp
theorem vs_iff (v : Vl) : vS v.k v.n v.s (bs v.t) v.m = true ↔ vSound v := by
  obtain ⟨k, n, s, t, m⟩ := v
  have ht : (bs t).toList = t := bs_toList t
  have he : (⟨#[]⟩ : ByteArray).toList = [] := bs_toList []
  unfold vS vSound
  simp only
  by_cases h0 : k = 0
  · subst h0
    rw [if_pos rfl, vlq_iff, ht, he]
    constructor
    · rintro ⟨_, h1, h2, h3, h4⟩
      exact .inl ⟨rfl, h1, h2, h3, h4⟩
    · rintro (h | h | h | h | h)
      · exact h
      all_goals exact absurd h.1 (by decide)
  · rw [if_neg h0]
    by_cases h1 : k = 1
    · subst h1
      rw [if_pos rfl, Bool.and_eq_true, vlq_iff, ht, he]
      constructor
      · rintro ⟨⟨_, _, _, h3, h4⟩, h5⟩
        exact .inr (.inl ⟨rfl, h5, h3, h4⟩)
      · rintro (h | h | h | h | h)
        · exact absurd h.1 (by decide)
        · exact ⟨⟨rfl, rfl, rfl, h.2.2.1, h.2.2.2⟩, h.2.1⟩
        all_goals exact absurd h.1 (by decide)
    · rw [if_neg h1]
      by_cases h2 : k = 2
      · subst h2
        have hsz : (((bs t).size : Int) ≤ 256) ↔ t.length ≤ 256 := by rw [bs_size]; omega
        rw [if_pos rfl, Bool.and_eq_true, Bool.and_eq_true, vlq_iff, decide_eq_true_iff, hsz]
        constructor
        · rintro ⟨⟨_, h2, h3, _, h4⟩, h5, h6⟩
          exact .inr (.inr (.inl ⟨rfl, h2, h3, h4, h5, h6⟩))
        · rintro (h | h | h | h | h)
          · exact absurd h.1 (by decide)
          · exact absurd h.1 (by decide)
          · exact ⟨⟨rfl, h.2.1, h.2.2.1, rfl, h.2.2.2.1⟩, h.2.2.2.2⟩
          all_goals exact absurd h.1 (by decide)
      · rw [if_neg h2]
        by_cases h3 : k = 3
        · subst h3
          rw [if_pos rfl, vlq_iff, ht, he]
          constructor
          · rintro ⟨_, h1, h2, h3, h4⟩
            exact .inr (.inr (.inr (.inl ⟨rfl, h1, h2, h3, by rw [h4]; exact and_one m⟩)))
          · rintro (h | h | h | h | h)
            · exact absurd h.1 (by decide)
            · exact absurd h.1 (by decide)
            · exact absurd h.1 (by decide)
            · refine ⟨rfl, h.2.1, h.2.2.1, h.2.2.2.1, ?_⟩
              rcases h.2.2.2.2 with h | h <;> rw [h] <;> decide
            · exact absurd h.1 (by decide)
        · rw [if_neg h3]
          by_cases h4 : k = 4
          · subst h4
            rw [if_pos rfl, vlq_iff, ht, he]
            constructor
            · rintro ⟨_, h1, h2, h3, h4⟩
              exact .inr (.inr (.inr (.inr ⟨rfl, h1, h2, h3, by omega, by omega⟩)))
            · rintro (h | h | h | h | h)
              · exact absurd h.1 (by decide)
              · exact absurd h.1 (by decide)
              · exact absurd h.1 (by decide)
              · exact absurd h.1 (by decide)
              · exact ⟨rfl, h.2.1, h.2.2.1, h.2.2.2.1, by have := h.2.2.2.2; omega⟩
          · rw [if_neg h4]
            constructor
            · intro h
              cases h
            · rintro (h | h | h | h | h)
              · exact absurd h.1 h0
              · exact absurd h.1 h1
              · exact absurd h.1 h2
              · exact absurd h.1 h3
              · exact absurd h.1 h4
/-- What a value's numbers keep to. -/
structure VOk (v : Vl) : Prop where
  n : I64 v.n
  s : I64 v.s
  m : I64 v.m
open Classical in
theorem vsd_any (v : Vl) (hv : VOk v) (m : Int) (w : World) (hw : OKW m w) :
    Calls Tryz.prog 48 #[.agg (cellsV v)] w fun e w' => e = .returned (.bool (decide (vSound v))) ∧ Below w.heap.size w w' := by
  have h := vs_any v.k v.n v.s (bs v.t) v.m hv.n hv.s m w hw
  have e : vS v.k v.n v.s (bs v.t) v.m = decide (vSound v) := by
    by_cases hs : vSound v
    · rw [decide_eq_true hs]
      exact (vs_iff v).2 hs
    · rw [decide_eq_false hs]
      cases hb : vS v.k v.n v.s (bs v.t) v.m with
      | false => rfl
      | true => exact absurd ((vs_iff v).1 hb) hs
  rw [e] at h
  exact h
theorem vs_ok {v : Vl} (h : vSound v) : VOk v := by
  rcases h with h | h | h | h | h
  · exact ⟨by rw [h.2.1]; exact ok0, by rw [h.2.2.1]; exact ok0, by rw [h.2.2.2.2]; exact ok0⟩
  · obtain ⟨b1, b2, b3, b4, _⟩ := sound_bd h.2.1
    exact ⟨⟨by omega, by omega⟩, ⟨by omega, by omega⟩, by rw [h.2.2.2]; exact ok0⟩
  · exact ⟨by rw [h.2.1]; exact ok0, by rw [h.2.2.1]; exact ok0, by rw [h.2.2.2.1]; exact ok0⟩
  · refine ⟨by rw [h.2.1]; exact ok0, by rw [h.2.2.1]; exact ok0, ?_⟩
    rcases h.2.2.2.2 with h | h <;> rw [h]
    · exact ok0
    · exact ⟨by decide, by decide⟩
  · exact ⟨by rw [h.2.1]; exact ok0, by rw [h.2.2.1]; exact ok0, ⟨by omega, by omega⟩⟩
end Go.Proofs.YtkkeplmaphcblaaGreatDoor

namespace Go.Proofs.YtkkeplmaphcblaaGreatDoor
open Go.RowKit

set_option maxHeartbeats 4000000 in
set_option maxRecDepth 100000 in
theorem kids_any (o : Int) (w : World) : Calls Tryz.prog 109 #[.int .i64 o] w fun e w' => e = .returned (.int .i64 (kidsN o)) ∧ w = w' := by
  unfold kidsN
  by_cases h1 : o = 1
  · subst h1
    go_enter Tryz.func109, Tryz.ntmps109
    go_wp2_with fail
    go_returns
    exact ⟨rfl, rfl⟩
  by_cases h2 : o = 2
  · subst h2
    go_enter Tryz.func109, Tryz.ntmps109
    go_wp2_with fail
    go_returns
    exact ⟨rfl, rfl⟩
  rw [if_neg (by omega)]
  by_cases h3 : o = 3
  · subst h3
    go_enter Tryz.func109, Tryz.ntmps109
    go_wp2_with fail
    go_returns
    exact ⟨rfl, rfl⟩
  by_cases h4 : o = 16
  · subst h4
    go_enter Tryz.func109, Tryz.ntmps109
    go_wp2_with fail
    go_returns
    exact ⟨rfl, rfl⟩
  rw [if_neg (by omega)]
  by_cases h5 : o = 17
  · subst h5
    go_enter Tryz.func109, Tryz.ntmps109
    go_wp2_with fail
    go_returns
    exact ⟨rfl, rfl⟩
  rw [if_neg h5]
  by_cases h6 : 4 ≤ o
  · by_cases h7 : o ≤ 15
    · rw [if_pos ⟨h6, h7⟩]
      go_enter Tryz.func109, Tryz.ntmps109
      go_wp2_with fail
      go_returns
      exact ⟨rfl, rfl⟩
    · rw [if_neg (fun h => h7 h.2)]
      go_enter Tryz.func109, Tryz.ntmps109
      go_wp2_with fail
      go_returns
      exact ⟨rfl, rfl⟩
  · rw [if_neg (fun h => h6 h.1)]
    go_enter Tryz.func109, Tryz.ntmps109
    go_wp2_with fail
    go_returns
    exact ⟨rfl, rfl⟩

/-- The count of what may still come lies in block lb; nothing of w0 has turned. -/
structure SB (w0 w : World) (lb : Nat) (l : Int) : Prop where
  bel : Below w0.heap.size w0 w
  blk : Blk w lb 3 #[.int .i64 l]
  new : w0.heap.size ≤ lb
theorem SB.step {w0 w w' : World} {lb : Nat} {l : Int} (h : SB w0 w lb l) (hb : Below w.heap.size w w') : SB w0 w' lb l := ⟨bstep h.bel hb, h.blk.step hb, h.new⟩
/-- What a closure holds: how deep, and where the count lies. -/
structure CL (w : World) (D P lb : Nat) (d : Int) : Prop where
  d : w.cell? ⟨D, 0, none⟩ = some (.int .i64 d)
  p : w.cell? ⟨P, 0, none⟩ = some (.pointer (some ⟨lb, 0, none⟩))
  nd : D ≠ lb
  np : P ≠ lb
theorem CL.gr {w w' : World} {D P lb : Nat} {d : Int} (h : CL w D P lb d) (g : Gr lb w w') : CL w' D P lb d :=
  ⟨((gcell g).1 _ _ (block_lt_of_cell h.d) h.nd).trans h.d, ((gcell g).1 _ _ (block_lt_of_cell h.p) h.np).trans h.p, h.nd, h.np⟩
set_option maxHeartbeats 4000000 in
set_option maxRecDepth 100000 in
theorem sclo_any (o ek en s m : Int) (y r : ByteArray) (B : Option Addr) (n c D P lb : Nat) (d d1 : Int) (hd : IntKind.i64.wrap (d + 1) = d1) (b : Bool) (w0 : World) (l l2 : Int) (w : World) (hs : SB w0 w lb l) (hc : CL w D P lb d)
    (KS : Hid (∀ W, SB w0 W lb l → Calls Tryz.prog 68 #[.agg #[.int .i64 o, .int .i64 ek, .int .i64 en, .int .i64 s, .string y, .int .i64 m, .string r, .slice B n c], .int .i64 d1, .pointer (some ⟨lb, 0, none⟩)] W fun e w' => e = .returned (.bool b) ∧ SB w0 w' lb l2 ∧ Gr lb W w')) :
    Calls Tryz.prog 112 #[.agg #[.int .i64 o, .int .i64 ek, .int .i64 en, .int .i64 s, .string y, .int .i64 m, .string r, .slice B n c], .pointer (some ⟨D, 0, none⟩), .pointer (some ⟨P, 0, none⟩)] w fun e w' => e = .returned (.bool (!b)) ∧ SB w0 w' lb l2 ∧ Gr lb w w' := by
  have HS := Lib.hid hs
  have c1 := hc.d
  have c2 := hc.p
  have hlt := hs.blk.lt
  have hl1 := block_lt_of_cell c1
  have hl2 := block_lt_of_cell c2
  simp only at hl1 hl2
  have hll1 := lts hl1
  have hll2 := lts hl2
  clear hs hc
  go_enter Tryz.func112, Tryz.ntmps112
  go_wp2_with fail
  refine (KS.out _ (HS.out.step (by (repeat' (first | (with_reducible exact Below.refl _ _) | (with_reducible assumption) | (with_reducible refine balloc ?_ _) | (with_reducible refine Below.drew ?_) | (with_reducible refine bset ?_ ?_ _) | (with_reducible refine bstep ?_ (by with_reducible assumption)) | (with_reducible refine bturn ?_ (by with_reducible assumption) ?_) | go_size))))).mono ?_
  rintro e w1 ⟨rfl, h1, g1⟩
  have g : Gr lb w w1 := Gr.trans (.of (by (repeat' (first | (with_reducible exact Below.refl _ _) | (with_reducible assumption) | (with_reducible refine balloc ?_ _) | (with_reducible refine Below.drew ?_) | (with_reducible refine bset ?_ ?_ _) | (with_reducible refine bstep ?_ (by with_reducible assumption)) | (with_reducible refine bturn ?_ (by with_reducible assumption) ?_) | go_size)))) g1
  clear c1 c2
  go_wp2_with fail
  go_returns
  exact ⟨rfl, h1, g⟩
/-- What is asked of sound at one of the kids. -/
def SndC (w0 : World) (x : Ex) : Prop := ∀ (cs : Array Value) (d : Nat) (l : Int) (lb : Nat) (w : World), XM (fun _ => True) w0 x cs → SB w0 w lb l → d ≤ 100 → 0 ≤ l → l ≤ 5000 →
  Calls Tryz.prog 68 #[.agg cs, .int .i64 (d : Int), .pointer (some ⟨lb, 0, none⟩)] w fun e w' => e = .returned (.bool (sndE x d l).1) ∧ SB w0 w' lb (sndE x d l).2 ∧ Gr lb w w'
theorem sndL_stop {L : List Ex} {k : Nat} {x : Ex} {d : Nat} {l : Int} {R : Bool × Int} (h : sndL (L.drop k) d l = R) (hx : L[k]? = some x) (hb : (sndE x d l).1 = false) : R = (false, (sndE x d l).2) := by
  obtain ⟨hk, rfl⟩ := List.getElem?_eq_some_iff.1 hx
  rw [List.drop_eq_getElem_cons hk, sndL, if_neg (by rw [hb]; decide)] at h
  exact h.symm
theorem sndL_go {L : List Ex} {k : Nat} {x : Ex} {d : Nat} {l : Int} {R : Bool × Int} (h : sndL (L.drop k) d l = R) (hx : L[k]? = some x) (hb : (sndE x d l).1 = true) : sndL (L.drop (k + 1)) d (sndE x d l).2 = R := by
  obtain ⟨hk, rfl⟩ := List.getElem?_eq_some_iff.1 hx
  rw [List.drop_eq_getElem_cons hk, sndL, if_pos hb] at h
  exact h
set_option maxHeartbeats 8000000 in
set_option maxRecDepth 100000 in
theorem sidx_walk (L : List Ex) (A : Option Addr) (c D P lb d1 : Nat) (d : Int) (hd : IntKind.i64.wrap (d + 1) = (d1 : Int)) (hd1 : d1 ≤ 100) (f : Nat → Array Value) (w0 : World) (hn : L.length ≤ maxLen) (hx : ∀ i k, L[i]? = some k → XM (fun _ => True) w0 k (f i))
    (hcx : ∀ i k, L[i]? = some k → ∃ g b, A = some ⟨g, b, none⟩ ∧ True ∧ ∀ j u, (f i)[j]? = some u → w0.cell? ⟨g, b + i * 8 + j, none⟩ = some u) (hK : ∀ k ∈ L, SndC w0 k) (l : Int) (hl0 : 0 ≤ l) (hl1 : l ≤ 5000) (w : World) (hs : SB w0 w lb l) (hc : CL w D P lb d) :
    Calls Tryz.prog 154 #[.slice A L.length c, .func (.func 112) #[] #[.pointer (some ⟨D, 0, none⟩), .pointer (some ⟨P, 0, none⟩)]] w fun e w' => (∃ r : Int, e = .returned (.int .i64 r) ∧ (0 ≤ r ↔ (sndL L d1 l).1 = false)) ∧ SB w0 w' lb (sndL L d1 l).2 ∧ Gr lb w w' := by
  obtain ⟨R, hR⟩ : ∃ R, sndL L d1 l = R := ⟨_, rfl⟩
  rw [hR]
  have HX := Lib.hid hx
  have HCX := Lib.hid hcx
  have HK := Lib.hid hK
  have HD := Lib.hid (And.intro hd hd1)
  have hn2 : (L.length : Int) ≤ 9223372036854775807 := by unfold maxLen at hn; omega
  have S0 : Hid (SB w0 w lb l ∧ CL w D P lb d ∧ sndL (L.drop 0) d1 l = R ∧ 0 ≤ l ∧ l ≤ 5000) := Lib.hid ⟨hs, hc, hR, hl0, hl1⟩
  clear hx hcx hK hR hs hc hd hd1 hn hl0 hl1
  go_enter Tryz.func154, Tryz.ntmps154
  go_wp2_with fail
  go_loopw [8] (fun i wr => ∃ (k : Nat) (lk : Int), k ≤ L.length ∧ i = .int .i64 (k : Int) ∧ Gr lb w wr ∧ Hid (SB w0 wr lb lk ∧ CL wr D P lb d ∧ sndL (L.drop k) d1 lk = R ∧ 0 ≤ lk ∧ lk ≤ 5000)) (fun i _ => L.length - (intOf i).toNat)
  case atStart => exact ⟨0, l, by omega, rfl, Gr.refl _ _, S0⟩
  case round =>
    obtain ⟨k, lk, hk, rfl, hg, HQ⟩ := hrel
    by_cases hlt : k < L.length
    · obtain ⟨x, ht⟩ : ∃ x, L[k]? = some x := ⟨L[k], List.getElem?_eq_getElem hlt⟩
      have hki : (k : Int) < (L.length : Int) := by omega
      have hkn : IntKind.i64.wrap ((k : Int) + 1) = ((k + 1 : Nat) : Int) := by rw [IntWalk.i64_in _ (by omega)]; omega
      obtain ⟨g, off, rfl, _, hcell⟩ := HCX.out k x ht
      have hxm := HX.out k x ht
      obtain ⟨o, ek, en, s, y, m, r, B, n, cc, hcs⟩ : ∃ (o ek en s : Int) (y : ByteArray) (m : Int) (r : ByteArray) (B : Option Addr) (n cc : Nat), f k = #[.int .i64 o, .int .i64 ek, .int .i64 en, .int .i64 s, .string y, .int .i64 m, .string r, .slice B n cc] := by
        obtain ⟨A, c, h⟩ := hxm.get
        exact ⟨_, _, _, _, _, _, _, _, _, _, h⟩
      rw [hcs] at hcell hxm
      have hbel := HQ.out.1.bel
      have q0 := keep1 hbel (hcell 0 _ rfl)
      have q1 := keep1 hbel (hcell 1 _ rfl)
      have q2 := keep1 hbel (hcell 2 _ rfl)
      have q3 := keep1 hbel (hcell 3 _ rfl)
      have q4 := keep1 hbel (hcell 4 _ rfl)
      have q5 := keep1 hbel (hcell 5 _ rfl)
      have q6 := keep1 hbel (hcell 6 _ rfl)
      have q7 := keep1 hbel (hcell 7 _ rfl)
      simp only [Nat.add_zero] at q0
      have KS := HK.out x (List.mem_of_getElem? ht)
      obtain ⟨b, hb⟩ : ∃ b, (sndE x d1 lk).1 = b := ⟨_, rfl⟩
      obtain ⟨l2, hl2⟩ : ∃ l2, (sndE x d1 lk).2 = l2 := ⟨_, rfl⟩
      have KC : Hid (∀ W, SB w0 W lb lk → CL W D P lb d → Calls Tryz.prog 112 #[.agg #[.int .i64 o, .int .i64 ek, .int .i64 en, .int .i64 s, .string y, .int .i64 m, .string r, .slice B n cc], .pointer (some ⟨D, 0, none⟩), .pointer (some ⟨P, 0, none⟩)] W fun e w' => e = .returned (.bool (!b)) ∧ SB w0 w' lb l2 ∧ Gr lb W w') :=
        Lib.hid fun W hW hC => sclo_any o ek en s m y r B n cc D P lb d d1 HD.out.1 b w0 lk l2 W hW hC (Lib.hid fun W hW => by
          have := KS _ d1 lk lb W hxm hW HD.out.2 HQ.out.2.2.2.1 HQ.out.2.2.2.2
          rw [hb, hl2] at this
          exact this)
      have HN : Hid (b = true → sndL (L.drop (k + 1)) d1 l2 = R ∧ 0 ≤ l2 ∧ l2 ≤ 5000) := Lib.hid fun h => by
        have e1 := sndL_go HQ.out.2.2.1 ht (hb.trans h)
        obtain ⟨_, _, e2, e3⟩ := sndE_true x d1 lk (hb.trans h)
        rw [hl2] at e1 e2 e3
        exact ⟨e1, e3, by have := HQ.out.2.2.2.2; omega⟩
      have HY : Hid (b = false → R = (false, l2)) := Lib.hid fun h => by
        have e1 := sndL_stop HQ.out.2.2.1 ht (hb.trans h)
        rw [hl2] at e1
        exact e1
      have HSB := Lib.hid HQ.out.1
      have HCL := Lib.hid HQ.out.2.1
      clear hcell hxm hcs hbel hb hl2 ht KS HQ
      go_wp2_with fail
      refine (KC.out _ HSB.out HCL.out).mono ?_
      rintro e w2 ⟨rfl, h2, g2⟩
      clear q0 q1 q2 q3 q4 q5 q6 q7
      cases b with
      | false =>
        go_wp2_with fail
        go_returns
        have hr := HY.out (by simp)
        subst hr
        exact ⟨⟨k, rfl, by simp⟩, h2, hg.trans g2⟩
      | true =>
        go_wp2_with fail
        go_roundw
        case rel => exact ⟨k + 1, l2, by omega, by go_num, hg.trans g2, Lib.hid ⟨h2, HCL.out.gr g2, HN.out (by simp)⟩⟩
        case measure => simp [intOf]; omega
    · obtain rfl : k = L.length := by omega
      have hR : R = (true, lk) := by
        have := HQ.out.2.2.1
        rw [List.drop_length, sndL] at this
        exact this.symm
      have HR := Lib.hid hR
      clear hlt hR
      go_wp2_with fail
      go_returns
      have hr := HR.out
      subst hr
      exact ⟨⟨-1, rfl, by simp⟩, HQ.out.1, hg⟩
set_option maxHeartbeats 8000000 in
set_option maxRecDepth 100000 in
theorem scont_walk (A : Option Addr) (n c D P lb : Nat) (R : Bool × Int) (w0 : World) (w : World)
    (KI : Hid (∀ W, W = w → Calls Tryz.prog 154 #[.slice A n c, .func (.func 112) #[] #[.pointer (some ⟨D, 0, none⟩), .pointer (some ⟨P, 0, none⟩)]] W fun e w' => (∃ r : Int, e = .returned (.int .i64 r) ∧ (0 ≤ r ↔ R.1 = false)) ∧ SB w0 w' lb R.2 ∧ Gr lb W w')) :
    Calls Tryz.prog 111 #[.slice A n c, .func (.func 112) #[] #[.pointer (some ⟨D, 0, none⟩), .pointer (some ⟨P, 0, none⟩)]] w fun e w' => e = .returned (.bool (!R.1)) ∧ SB w0 w' lb R.2 ∧ Gr lb w w' := by
  go_enter Tryz.func111, Tryz.ntmps111
  go_wp2_with fail
  refine (KI.out _ rfl).mono ?_
  rintro e w1 ⟨⟨r, rfl, hr⟩, h1, g1⟩
  have HR := Lib.hid hr
  clear hr
  go_wp2_with fail
  go_returns
  refine ⟨?_, h1, g1⟩
  by_cases h : 0 ≤ r
  · rw [decide_eq_true h, HR.out.1 h]
    rfl
  · rw [decide_eq_false h]
    cases hb : R.1 with
    | true => rfl
    | false => exact absurd (HR.out.2 hb) h
end Go.Proofs.YtkkeplmaphcblaaGreatDoor

namespace Go.Proofs.YtkkeplmaphcblaaGreatDoor
open Go.RowKit
attribute [local go_sem high] run_vl_eql run_vl_neq

/-- May it have this value and this name? By what the walk asks. -/
def okB (o : Int) (re wb zv sd ng : Bool) : Bool := if o = 2 then !re && wb && zv && sd && !ng else if o = 1 then re && sd && !ng else re && zv && sd && !ng
section
variable (o vk vn vs vm : Int) (q r : ByteArray) (A : Option Addr) (N c d lb : Nat) (l l1 kn : Int) (w0 w : World) (R : Bool × Int) (re wb zv sd ng : Bool)
set_option maxHeartbeats 16000000 in
set_option maxRecDepth 100000 in
theorem snd_node (hs : SB w0 w lb l) (hl : IntKind.i64.wrap (l - 1) = l1) (hkn : kidsN o = kn) (hd : d ≤ 100) (hre : r.toList.isEmpty = re) (hzv : vlq vk vn vs q vm 0 0 0 ⟨#[]⟩ 0 = zv) (hng : decide (vn < 0) = ng)
    (KW : Hid (∀ W, Calls Tryz.prog 110 #[.string r] W fun e w' => e = .returned (.bool wb) ∧ Below W.heap.size W w'))
    (KV : Hid (∀ W, Below w0.heap.size w0 W → Calls Tryz.prog 48 #[.agg #[.int .i64 vk, .int .i64 vn, .int .i64 vs, .string q, .int .i64 vm]] W fun e w' => e = .returned (.bool sd) ∧ Below W.heap.size W w'))
    (KC : Hid (d ≤ 64 → 0 ≤ l1 → ∀ D P W, SB w0 W lb l1 → CL W D P lb d → Calls Tryz.prog 111 #[.slice A N c, .func (.func 112) #[] #[.pointer (some ⟨D, 0, none⟩), .pointer (some ⟨P, 0, none⟩)]] W fun e w' => e = .returned (.bool (!R.1)) ∧ SB w0 w' lb R.2 ∧ Gr lb W w')) :
    Calls Tryz.prog 68 #[.agg #[.int .i64 o, .int .i64 vk, .int .i64 vn, .int .i64 vs, .string q, .int .i64 vm, .string r, .slice A N c], .int .i64 (d : Int), .pointer (some ⟨lb, 0, none⟩)] w fun e w' =>
      e = .returned (.bool ((decide (d ≤ 64) && (decide (0 ≤ l1) && decide ((N : Int) = kn))) && (okB o re wb zv sd ng && R.1))) ∧ SB w0 w' lb (if ((decide (d ≤ 64) && (decide (0 ≤ l1) && decide ((N : Int) = kn))) && okB o re wb zv sd ng) = true then R.2 else l1) ∧ Gr lb w w' := by
  obtain ⟨C, hC⟩ : ∃ C, (decide (d ≤ 64) && (decide (0 ≤ l1) && decide ((N : Int) = kn))) = C := ⟨_, rfl⟩
  obtain ⟨K, hK⟩ : ∃ K, okB o re wb zv sd ng = K := ⟨_, rfl⟩
  rw [hC, hK]
  have HC := Lib.hid hC
  have HK := Lib.hid hK
  clear hC hK
  have hlt := hs.blk.lt
  have hll := lts hlt
  have hc0 := hs.blk.cell 0
  simp at hc0
  have hf0 := hs.blk.frozen 0
  have G1 : Hid (Gr lb w (((((w.setCell ⟨lb, 0, none⟩ (.int .i64 l1)).alloc (.cells #[.int .i64 o, .int .i64 vk, .int .i64 vn, .int .i64 vs, .string q, .int .i64 vm, .string r, .slice A N c] 33)).alloc (.cells #[.int .i64 (d : Int)] 3)).alloc (.cells #[.pointer (some ⟨lb, 0, none⟩)] 100)))) := Lib.hid (by (repeat' (first | (with_reducible exact Gr.refl _ _) | (with_reducible assumption) | (with_reducible refine Gr.alloc ?_ _) | (with_reducible refine Gr.drew ?_) | (with_reducible refine Gr.drewN ?_ _) | (with_reducible refine Gr.set ?_ _ _) | (with_reducible refine Gr.far ?_ ?_ _) | (with_reducible refine Gr.trans ?_ (by with_reducible assumption)) | (with_reducible refine Gr.bstep ?_ (by with_reducible assumption)) | (with_reducible refine Gr.turn ?_ (by with_reducible assumption)) | (with_reducible refine Gr.turnFar ?_ (by with_reducible assumption) ?_) | go_size | ((try simp only [World.size_alloc, World.size_setCell, World.size_drew]); omega))))
  have S1 : Hid (SB w0 (((((w.setCell ⟨lb, 0, none⟩ (.int .i64 l1)).alloc (.cells #[.int .i64 o, .int .i64 vk, .int .i64 vn, .int .i64 vs, .string q, .int .i64 vm, .string r, .slice A N c] 33)).alloc (.cells #[.int .i64 (d : Int)] 3)).alloc (.cells #[.pointer (some ⟨lb, 0, none⟩)] 100))) lb l1) := Lib.hid ⟨hs.bel.trans ⟨rfl, rfl, rfl, by simp [World.setCell]; omega, fun k hk => by
      have := G1.out.block k (by have := hs.bel.size; omega) (by have := hs.new; omega)
      exact this⟩, by
    have := hs.blk.set_ 0 (.int .i64 l1)
    exact (((by simpa using this : Blk _ lb _ _).alloc _).alloc _).alloc _, hs.new⟩
  have C1 : Hid (CL (((((w.setCell ⟨lb, 0, none⟩ (.int .i64 l1)).alloc (.cells #[.int .i64 o, .int .i64 vk, .int .i64 vn, .int .i64 vs, .string q, .int .i64 vm, .string r, .slice A N c] 33)).alloc (.cells #[.int .i64 (d : Int)] 3)).alloc (.cells #[.pointer (some ⟨lb, 0, none⟩)] 100))) (w.heap.size + 1) (w.heap.size + 1 + 1) lb d) := Lib.hid ⟨((Blk.new' _ _ _ (by simp [World.setCell])).alloc _ : Blk (((((w.setCell ⟨lb, 0, none⟩ (.int .i64 l1)).alloc (.cells #[.int .i64 o, .int .i64 vk, .int .i64 vn, .int .i64 vs, .string q, .int .i64 vm, .string r, .slice A N c] 33)).alloc (.cells #[.int .i64 (d : Int)] 3)).alloc (.cells #[.pointer (some ⟨lb, 0, none⟩)] 100))) (w.heap.size + 1) 3 #[.int .i64 (d : Int)]).cell 0, (Blk.new' _ _ _ (by simp [World.setCell]) : Blk (((((w.setCell ⟨lb, 0, none⟩ (.int .i64 l1)).alloc (.cells #[.int .i64 o, .int .i64 vk, .int .i64 vn, .int .i64 vs, .string q, .int .i64 vm, .string r, .slice A N c] 33)).alloc (.cells #[.int .i64 (d : Int)] 3)).alloc (.cells #[.pointer (some ⟨lb, 0, none⟩)] 100))) (w.heap.size + 1 + 1) 100 #[.pointer (some ⟨lb, 0, none⟩)]).cell 0, by omega, by omega⟩
  have K1 : Hid (Blk (((((w.setCell ⟨lb, 0, none⟩ (.int .i64 l1)).alloc (.cells #[.int .i64 o, .int .i64 vk, .int .i64 vn, .int .i64 vs, .string q, .int .i64 vm, .string r, .slice A N c] 33)).alloc (.cells #[.int .i64 (d : Int)] 3)).alloc (.cells #[.pointer (some ⟨lb, 0, none⟩)] 100))) w.heap.size 33 #[.int .i64 o, .int .i64 vk, .int .i64 vn, .int .i64 vs, .string q, .int .i64 vm, .string r, .slice A N c]) := Lib.hid (((Blk.new' _ _ _ (by simp [World.setCell])).alloc _).alloc _)
  have HB := Lib.hid hs.bel
  clear hs
  go_enter Tryz.func68, Tryz.ntmps68
  go_upto_region 2 with fail
  generalize ((((w.setCell ⟨lb, 0, none⟩ (.int .i64 l1)).alloc (.cells #[.int .i64 o, .int .i64 vk, .int .i64 vn, .int .i64 vs, .string q, .int .i64 vm, .string r, .slice A N c] 33)).alloc (.cells #[.int .i64 (d : Int)] 3)).alloc (.cells #[.pointer (some ⟨lb, 0, none⟩)] 100)) = w1 at *
  clear hc0 hf0 hll
  have c1 := C1.out.d
  have c2 := C1.out.p
  have c3 := S1.out.blk.cell 0
  simp at c3
  have k1 := K1.out
  have HKN := Lib.hid hkn
  have hlx := k1.lt; have hllx := lts hlx; have qx0 := k1.cell 0; have qx1 := k1.cell 1; have qx2 := k1.cell 2; have qx3 := k1.cell 3; have qx4 := k1.cell 4; have qx5 := k1.cell 5; have qx6 := k1.cell 6; have qx7 := k1.cell 7; simp at qx0 qx1 qx2 qx3 qx4 qx5 qx6 qx7; have zx0 := k1.frozen 0; have zx1 := k1.frozen 1; have zx2 := k1.frozen 2; have zx3 := k1.frozen 3; have zx4 := k1.frozen 4; have zx5 := k1.frozen 5; have zx6 := k1.frozen 6; have zx7 := k1.frozen 7; have Hk1 := Lib.hid k1; clear k1
  go_cut [28] (fun z wx => z = .bool (!C) ∧ Below w1.heap.size w1 wx)
  case first =>
    by_cases h1 : d ≤ 64
    · have e1 : decide ((64 : Int) < (d : Int)) = false := decide_eq_false (by omega)
      by_cases h2 : 0 ≤ l1
      · have e2 : decide (l1 < 0) = false := decide_eq_false (by omega)
        by_cases h3 : (N : Int) = kn
        · have e3 : ((N : Int) != kn) = false := by simpa using h3
          go_region_with (go_at_call 109; refine (kids_any _ _).mono ?_; rw [HKN.out]; rintro e w' ⟨rfl, rfl⟩)
          all_goals
            go_wp2_with fail
            go_meet
            case rel => exact ⟨by rw [← HC.out]; simp [*], by (repeat' (first | (with_reducible refine bdrewN ?_ _) | (with_reducible exact Below.refl _ _) | (with_reducible assumption) | (with_reducible refine balloc ?_ _) | (with_reducible refine Below.drew ?_) | (with_reducible refine bset ?_ ?_ _) | (with_reducible refine bstep ?_ (by with_reducible assumption)) | (with_reducible refine bturn ?_ (by with_reducible assumption) ?_) | go_size))⟩
        · have e3 : ((N : Int) != kn) = true := by simpa using h3
          go_region_with (go_at_call 109; refine (kids_any _ _).mono ?_; rw [HKN.out]; rintro e w' ⟨rfl, rfl⟩)
          all_goals
            go_wp2_with fail
            go_meet
            case rel => exact ⟨by rw [← HC.out]; simp [*], by (repeat' (first | (with_reducible refine bdrewN ?_ _) | (with_reducible exact Below.refl _ _) | (with_reducible assumption) | (with_reducible refine balloc ?_ _) | (with_reducible refine Below.drew ?_) | (with_reducible refine bset ?_ ?_ _) | (with_reducible refine bstep ?_ (by with_reducible assumption)) | (with_reducible refine bturn ?_ (by with_reducible assumption) ?_) | go_size))⟩
      · have e2 : decide (l1 < 0) = true := decide_eq_true (by omega)
        go_quiet (fail)
        go_wp2_with fail
        go_meet
        case rel => exact ⟨by rw [← HC.out]; simp [*], by (repeat' (first | (with_reducible refine bdrewN ?_ _) | (with_reducible exact Below.refl _ _) | (with_reducible assumption) | (with_reducible refine balloc ?_ _) | (with_reducible refine Below.drew ?_) | (with_reducible refine bset ?_ ?_ _) | (with_reducible refine bstep ?_ (by with_reducible assumption)) | (with_reducible refine bturn ?_ (by with_reducible assumption) ?_) | go_size))⟩
    · have e1 : decide ((64 : Int) < (d : Int)) = true := decide_eq_true (by omega)
      go_quiet (fail)
      go_wp2_with fail
      go_meet
      case rel => exact ⟨by rw [← HC.out]; simp [*], by (repeat' (first | (with_reducible refine bdrewN ?_ _) | (with_reducible exact Below.refl _ _) | (with_reducible assumption) | (with_reducible refine balloc ?_ _) | (with_reducible refine Below.drew ?_) | (with_reducible refine bset ?_ ?_ _) | (with_reducible refine bstep ?_ (by with_reducible assumption)) | (with_reducible refine bturn ?_ (by with_reducible assumption) ?_) | go_size))⟩
  case rest =>
    obtain ⟨rfl, hb2⟩ := hcut
    rename World => w2
    clear c1 c2 c3 qx0 qx1 qx2 qx3 qx4 qx5 qx6 qx7 zx0 zx1 zx2 zx3 zx4 zx5 zx6 zx7 hlx hllx
    have S2 := Lib.hid (S1.out.step hb2)
    have G2 := Lib.hid (G1.out.bstep hb2)
    have K2 := Lib.hid (K1.out.step hb2)
    have C2 : Hid (CL w2 (w.heap.size + 1) (w.heap.size + 1 + 1) lb d) := Lib.hid ⟨keep1 hb2 C1.out.d, keep1 hb2 C1.out.p, C1.out.nd, C1.out.np⟩
    clear S1 G1 K1 C1 hb2
    cases C with
    | false =>
      rw [show (!false) = true from rfl]
      go_wp2_with fail
      go_returns
      exact ⟨by simp, by simpa using S2.out, G2.out⟩
    | true =>
      rw [show (!true) = false from rfl]
      have k2 := K2.out
      have hlx := k2.lt; have hllx := lts hlx; have qx0 := k2.cell 0; have qx1 := k2.cell 1; have qx2 := k2.cell 2; have qx3 := k2.cell 3; have qx4 := k2.cell 4; have qx5 := k2.cell 5; have qx6 := k2.cell 6; have qx7 := k2.cell 7; simp at qx0 qx1 qx2 qx3 qx4 qx5 qx6 qx7; have zx0 := k2.frozen 0; have zx1 := k2.frozen 1; have zx2 := k2.frozen 2; have zx3 := k2.frozen 3; have zx4 := k2.frozen 4; have zx5 := k2.frozen 5; have zx6 := k2.frozen 6; have zx7 := k2.frozen 7; have Hk2 := Lib.hid k2; clear k2
      go_upto_region 4 with fail
      go_cut [70] (fun z wx => z = .bool (!K) ∧ Below w2.heap.size w2 wx)
      case first =>
        by_cases h2 : o = 2
        · subst h2
          cases re with
          | true =>
            go_wp2_with fail
            go_meet
            case rel => exact ⟨by rw [← HK.out]; simp [okB], by (repeat' (first | (with_reducible exact Below.refl _ _) | (with_reducible assumption) | (with_reducible refine balloc ?_ _) | (with_reducible refine Below.drew ?_) | (with_reducible refine bset ?_ ?_ _) | (with_reducible refine bstep ?_ (by with_reducible assumption)) | (with_reducible refine bturn ?_ (by with_reducible assumption) ?_) | go_size))⟩
          | false =>
            go_wp2_with fail
            refine (KW.out _).mono ?_
            rintro e wa ⟨rfl, hba⟩
            have ka := K2.out.step hba
            have Ka := Lib.hid ka
            clear qx0 qx1 qx2 qx3 qx4 qx5 qx6 qx7 zx0 zx1 zx2 zx3 zx4 zx5 zx6 zx7 hlx hllx
            cases wb with
            | false =>
              go_wp2_with fail
              go_meet
              case rel => exact ⟨by rw [← HK.out]; simp [okB], by (repeat' (first | (with_reducible exact Below.refl _ _) | (with_reducible assumption) | (with_reducible refine balloc ?_ _) | (with_reducible refine Below.drew ?_) | (with_reducible refine bset ?_ ?_ _) | (with_reducible refine bstep ?_ (by with_reducible assumption)) | (with_reducible refine bturn ?_ (by with_reducible assumption) ?_) | go_size))⟩
            | true =>
              have hly := ka.lt; have hlly := lts hly; have qy0 := ka.cell 0; have qy1 := ka.cell 1; have qy2 := ka.cell 2; have qy3 := ka.cell 3; have qy4 := ka.cell 4; have qy5 := ka.cell 5; have qy6 := ka.cell 6; have qy7 := ka.cell 7; simp at qy0 qy1 qy2 qy3 qy4 qy5 qy6 qy7; have zy0 := ka.frozen 0; have zy1 := ka.frozen 1; have zy2 := ka.frozen 2; have zy3 := ka.frozen 3; have zy4 := ka.frozen 4; have zy5 := ka.frozen 5; have zy6 := ka.frozen 6; have zy7 := ka.frozen 7; have Hka := Lib.hid ka; clear ka
              cases zv with
              | false =>
                go_wp2_with fail
                go_meet
                case rel => exact ⟨by rw [← HK.out]; simp [okB], by (repeat' (first | (with_reducible exact Below.refl _ _) | (with_reducible assumption) | (with_reducible refine balloc ?_ _) | (with_reducible refine Below.drew ?_) | (with_reducible refine bset ?_ ?_ _) | (with_reducible refine bstep ?_ (by with_reducible assumption)) | (with_reducible refine bturn ?_ (by with_reducible assumption) ?_) | go_size))⟩
              | true =>
                go_wp2_with fail
                refine (KV.out _ (S2.out.step hba).bel).mono ?_
                rintro e wv ⟨rfl, hbv⟩
                have kv := (Ka.out).step hbv
                have hlz := kv.lt; have hllz := lts hlz; have qz0 := kv.cell 0; have qz1 := kv.cell 1; have qz2 := kv.cell 2; have qz3 := kv.cell 3; have qz4 := kv.cell 4; have qz5 := kv.cell 5; have qz6 := kv.cell 6; have qz7 := kv.cell 7; simp at qz0 qz1 qz2 qz3 qz4 qz5 qz6 qz7; have zz0 := kv.frozen 0; have zz1 := kv.frozen 1; have zz2 := kv.frozen 2; have zz3 := kv.frozen 3; have zz4 := kv.frozen 4; have zz5 := kv.frozen 5; have zz6 := kv.frozen 6; have zz7 := kv.frozen 7; have Hkv := Lib.hid kv; clear kv
                cases sd with
                | false =>
                  go_wp2_with fail
                  go_meet
                  case rel => exact ⟨by rw [← HK.out]; simp [okB], by (repeat' (first | (with_reducible exact Below.refl _ _) | (with_reducible assumption) | (with_reducible refine balloc ?_ _) | (with_reducible refine Below.drew ?_) | (with_reducible refine bset ?_ ?_ _) | (with_reducible refine bstep ?_ (by with_reducible assumption)) | (with_reducible refine bturn ?_ (by with_reducible assumption) ?_) | go_size))⟩
                | true =>
                  cases ng with
                  | false =>
                    go_wp2_with fail
                    go_meet
                    case rel => exact ⟨by rw [← HK.out]; simp [okB], by (repeat' (first | (with_reducible exact Below.refl _ _) | (with_reducible assumption) | (with_reducible refine balloc ?_ _) | (with_reducible refine Below.drew ?_) | (with_reducible refine bset ?_ ?_ _) | (with_reducible refine bstep ?_ (by with_reducible assumption)) | (with_reducible refine bturn ?_ (by with_reducible assumption) ?_) | go_size))⟩
                  | true =>
                    go_wp2_with fail
                    go_meet
                    case rel => exact ⟨by rw [← HK.out]; simp [okB], by (repeat' (first | (with_reducible exact Below.refl _ _) | (with_reducible assumption) | (with_reducible refine balloc ?_ _) | (with_reducible refine Below.drew ?_) | (with_reducible refine bset ?_ ?_ _) | (with_reducible refine bstep ?_ (by with_reducible assumption)) | (with_reducible refine bturn ?_ (by with_reducible assumption) ?_) | go_size))⟩
        · have h2b : (o == 2) = false := by simpa using h2
          cases re with
          | false =>
            by_cases h1 : o = 1
            · go_wp2_with fail
              go_meet
              case rel => exact ⟨by rw [← HK.out]; simp [okB, *], by (repeat' (first | (with_reducible exact Below.refl _ _) | (with_reducible assumption) | (with_reducible refine balloc ?_ _) | (with_reducible refine Below.drew ?_) | (with_reducible refine bset ?_ ?_ _) | (with_reducible refine bstep ?_ (by with_reducible assumption)) | (with_reducible refine bturn ?_ (by with_reducible assumption) ?_) | go_size))⟩
            · go_wp2_with fail
              go_meet
              case rel => exact ⟨by rw [← HK.out]; simp [okB, *], by (repeat' (first | (with_reducible exact Below.refl _ _) | (with_reducible assumption) | (with_reducible refine balloc ?_ _) | (with_reducible refine Below.drew ?_) | (with_reducible refine bset ?_ ?_ _) | (with_reducible refine bstep ?_ (by with_reducible assumption)) | (with_reducible refine bturn ?_ (by with_reducible assumption) ?_) | go_size))⟩
          | true =>
            by_cases h1 : o = 1
            · subst h1
              go_wp2_with fail
              refine (KV.out _ (S2.out).bel).mono ?_
              rintro e wv ⟨rfl, hbv⟩
              have kv := (K2.out).step hbv
              have hlz := kv.lt; have hllz := lts hlz; have qz0 := kv.cell 0; have qz1 := kv.cell 1; have qz2 := kv.cell 2; have qz3 := kv.cell 3; have qz4 := kv.cell 4; have qz5 := kv.cell 5; have qz6 := kv.cell 6; have qz7 := kv.cell 7; simp at qz0 qz1 qz2 qz3 qz4 qz5 qz6 qz7; have zz0 := kv.frozen 0; have zz1 := kv.frozen 1; have zz2 := kv.frozen 2; have zz3 := kv.frozen 3; have zz4 := kv.frozen 4; have zz5 := kv.frozen 5; have zz6 := kv.frozen 6; have zz7 := kv.frozen 7; have Hkv := Lib.hid kv; clear kv
              cases sd with
              | false =>
                go_wp2_with fail
                go_meet
                case rel => exact ⟨by rw [← HK.out]; simp [okB], by (repeat' (first | (with_reducible exact Below.refl _ _) | (with_reducible assumption) | (with_reducible refine balloc ?_ _) | (with_reducible refine Below.drew ?_) | (with_reducible refine bset ?_ ?_ _) | (with_reducible refine bstep ?_ (by with_reducible assumption)) | (with_reducible refine bturn ?_ (by with_reducible assumption) ?_) | go_size))⟩
              | true =>
                cases ng with
                | false =>
                  go_wp2_with fail
                  go_meet
                  case rel => exact ⟨by rw [← HK.out]; simp [okB], by (repeat' (first | (with_reducible exact Below.refl _ _) | (with_reducible assumption) | (with_reducible refine balloc ?_ _) | (with_reducible refine Below.drew ?_) | (with_reducible refine bset ?_ ?_ _) | (with_reducible refine bstep ?_ (by with_reducible assumption)) | (with_reducible refine bturn ?_ (by with_reducible assumption) ?_) | go_size))⟩
                | true =>
                  go_wp2_with fail
                  go_meet
                  case rel => exact ⟨by rw [← HK.out]; simp [okB], by (repeat' (first | (with_reducible exact Below.refl _ _) | (with_reducible assumption) | (with_reducible refine balloc ?_ _) | (with_reducible refine Below.drew ?_) | (with_reducible refine bset ?_ ?_ _) | (with_reducible refine bstep ?_ (by with_reducible assumption)) | (with_reducible refine bturn ?_ (by with_reducible assumption) ?_) | go_size))⟩
            · have h1b : (o != 1) = true := by simpa using h1
              cases zv with
              | false =>
                go_wp2_with fail
                go_meet
                case rel => exact ⟨by rw [← HK.out]; simp [okB, *], by (repeat' (first | (with_reducible exact Below.refl _ _) | (with_reducible assumption) | (with_reducible refine balloc ?_ _) | (with_reducible refine Below.drew ?_) | (with_reducible refine bset ?_ ?_ _) | (with_reducible refine bstep ?_ (by with_reducible assumption)) | (with_reducible refine bturn ?_ (by with_reducible assumption) ?_) | go_size))⟩
              | true =>
                go_wp2_with fail
                refine (KV.out _ (S2.out).bel).mono ?_
                rintro e wv ⟨rfl, hbv⟩
                have kv := (K2.out).step hbv
                have hlz := kv.lt; have hllz := lts hlz; have qz0 := kv.cell 0; have qz1 := kv.cell 1; have qz2 := kv.cell 2; have qz3 := kv.cell 3; have qz4 := kv.cell 4; have qz5 := kv.cell 5; have qz6 := kv.cell 6; have qz7 := kv.cell 7; simp at qz0 qz1 qz2 qz3 qz4 qz5 qz6 qz7; have zz0 := kv.frozen 0; have zz1 := kv.frozen 1; have zz2 := kv.frozen 2; have zz3 := kv.frozen 3; have zz4 := kv.frozen 4; have zz5 := kv.frozen 5; have zz6 := kv.frozen 6; have zz7 := kv.frozen 7; have Hkv := Lib.hid kv; clear kv
                cases sd with
                | false =>
                  go_wp2_with fail
                  go_meet
                  case rel => exact ⟨by rw [← HK.out]; simp [okB, *], by (repeat' (first | (with_reducible exact Below.refl _ _) | (with_reducible assumption) | (with_reducible refine balloc ?_ _) | (with_reducible refine Below.drew ?_) | (with_reducible refine bset ?_ ?_ _) | (with_reducible refine bstep ?_ (by with_reducible assumption)) | (with_reducible refine bturn ?_ (by with_reducible assumption) ?_) | go_size))⟩
                | true =>
                  cases ng with
                  | false =>
                    go_wp2_with fail
                    go_meet
                    case rel => exact ⟨by rw [← HK.out]; simp [okB, *], by (repeat' (first | (with_reducible exact Below.refl _ _) | (with_reducible assumption) | (with_reducible refine balloc ?_ _) | (with_reducible refine Below.drew ?_) | (with_reducible refine bset ?_ ?_ _) | (with_reducible refine bstep ?_ (by with_reducible assumption)) | (with_reducible refine bturn ?_ (by with_reducible assumption) ?_) | go_size))⟩
                  | true =>
                    go_wp2_with fail
                    go_meet
                    case rel => exact ⟨by rw [← HK.out]; simp [okB, *], by (repeat' (first | (with_reducible exact Below.refl _ _) | (with_reducible assumption) | (with_reducible refine balloc ?_ _) | (with_reducible refine Below.drew ?_) | (with_reducible refine bset ?_ ?_ _) | (with_reducible refine bstep ?_ (by with_reducible assumption)) | (with_reducible refine bturn ?_ (by with_reducible assumption) ?_) | go_size))⟩
      case rest =>
        obtain ⟨rfl, hb4⟩ := hcut
        rename World => w4
        clear qx0 qx1 qx2 qx3 qx4 qx5 qx6 qx7 zx0 zx1 zx2 zx3 zx4 zx5 zx6 zx7 hlx hllx
        have S4 := Lib.hid (S2.out.step hb4)
        have G4 := Lib.hid (G2.out.bstep hb4)
        have k4 := K2.out.step hb4
        have C4 : Hid (CL w4 (w.heap.size + 1) (w.heap.size + 1 + 1) lb d) := Lib.hid ⟨keep1 hb4 C2.out.d, keep1 hb4 C2.out.p, C2.out.nd, C2.out.np⟩
        clear S2 G2 K2 C2 hb4
        clear HK
        cases K with
        | false =>
          rw [show (!false) = true from rfl]
          go_wp2_with fail
          go_returns
          exact ⟨by simp, by simpa using S4.out, G4.out⟩
        | true =>
          rw [show (!true) = false from rfl]
          have hlx := k4.lt; have hllx := lts hlx; have qx0 := k4.cell 0; have qx1 := k4.cell 1; have qx2 := k4.cell 2; have qx3 := k4.cell 3; have qx4 := k4.cell 4; have qx5 := k4.cell 5; have qx6 := k4.cell 6; have qx7 := k4.cell 7; simp at qx0 qx1 qx2 qx3 qx4 qx5 qx6 qx7; have zx0 := k4.frozen 0; have zx1 := k4.frozen 1; have zx2 := k4.frozen 2; have zx3 := k4.frozen 3; have zx4 := k4.frozen 4; have zx5 := k4.frozen 5; have zx6 := k4.frozen 6; have zx7 := k4.frozen 7; have Hk4 := Lib.hid k4; clear k4
          go_wp2_with fail
          have hcc : d ≤ 64 ∧ 0 ≤ l1 := by have := HC.out; simp only [Bool.and_eq_true, decide_eq_true_eq] at this; exact ⟨this.1, this.2.1⟩
          refine (KC.out hcc.1 hcc.2 _ _ _ S4.out C4.out).mono ?_
          rintro e w5 ⟨rfl, h5, g5⟩
          clear qx0 qx1 qx2 qx3 qx4 qx5 qx6 qx7 zx0 zx1 zx2 zx3 zx4 zx5 zx6 zx7 hlx hllx
          go_wp2_with fail
          go_returns
          exact ⟨by simp, by simpa using h5, G4.out.trans g5⟩
end
end Go.Proofs.YtkkeplmaphcblaaGreatDoor

namespace Go.Proofs.YtkkeplmaphcblaaGreatDoor
open Go.RowKit

/-- Its values' numbers are numbers of the machine. -/
inductive EV : Ex → Prop
  | mk (o : Int) (v : Vl) (s : Bs) (kids : List Ex) (hv : VOk v) (h : ∀ k ∈ kids, EV k) : EV (.mk o v s kids)
theorem bs_empty (s : Bs) : (bs s).toList.isEmpty = s.isEmpty := by rw [bs_toList]
theorem vlq_zero (v : Vl) : vlq v.k v.n v.s (bs v.t) v.m 0 0 0 ⟨#[]⟩ 0 = true ↔ v = zeroV := by
  rw [vlq_iff, bs_toList, show (⟨#[]⟩ : ByteArray).toList = [] from bs_toList []]
  obtain ⟨k, n, s, t, m⟩ := v
  simp [zeroV]
theorem zero_sound : vSound zeroV := .inl ⟨rfl, rfl, rfl, rfl, rfl⟩
open Classical in
theorem okB_eq (o : Int) (v : Vl) (s : Bs) : okB o (bs s).toList.isEmpty (wordB s) (vlq v.k v.n v.s (bs v.t) v.m 0 0 0 ⟨#[]⟩ 0) (decide (vSound v)) (decide (v.n < 0)) = okE o v s := by
  have main : okB o (bs s).toList.isEmpty (wordB s) (vlq v.k v.n v.s (bs v.t) v.m 0 0 0 ⟨#[]⟩ 0) (decide (vSound v)) (decide (v.n < 0)) = true ↔ okP o v s := by
    have hz : v = zeroV → vSound v ∧ ¬ v.n < 0 := fun h => by subst h; exact ⟨zero_sound, by decide⟩
    have hw : wordB s = true → s ≠ [] := fun h e => by
      obtain ⟨c, r, h2, _⟩ := word_parts h
      rw [e] at h2
      cases h2
    have he : (bs s).toList.isEmpty = true ↔ s = [] := by rw [bs_empty]; exact List.isEmpty_iff
    unfold okB okP
    by_cases h2 : o = 2
    · subst h2
      rw [if_pos rfl, if_pos rfl, if_neg (by decide)]
      simp only [Bool.and_eq_true, Bool.not_eq_true', decide_eq_true_eq, vlq_zero, ← Bool.not_eq_true, he]
      exact ⟨fun h => ⟨h.1.1.1.2, h.1.1.2⟩, fun h => ⟨⟨⟨⟨hw h.1, h.1⟩, h.2⟩, (hz h.2).1⟩, (hz h.2).2⟩⟩
    · rw [if_neg h2, if_neg h2]
      by_cases h1 : o = 1
      · subst h1
        rw [if_pos rfl, if_pos rfl]
        simp only [Bool.and_eq_true, Bool.not_eq_true', decide_eq_true_eq, decide_eq_false_iff_not, he]
        exact ⟨fun h => ⟨h.1.1, h.1.2, by omega⟩, fun h => ⟨⟨h.1, h.2.1⟩, by omega⟩⟩
      · rw [if_neg h1, if_neg h1]
        simp only [Bool.and_eq_true, Bool.not_eq_true', decide_eq_true_eq, decide_eq_false_iff_not, vlq_zero, he]
        exact ⟨fun h => ⟨h.1.1.1, h.1.1.2⟩, fun h => ⟨⟨⟨h.1, h.2⟩, (hz h.2).1⟩, (hz h.2).2⟩⟩
  cases hb : okE o v s with
  | true => exact main.2 (okE_iff.1 hb)
  | false =>
    cases hc : okB o (bs s).toList.isEmpty (wordB s) (vlq v.k v.n v.s (bs v.t) v.m 0 0 0 ⟨#[]⟩ 0) (decide (vSound v)) (decide (v.n < 0)) with
    | false => rfl
    | true => rw [okE_iff.2 (main.1 hc)] at hb; cases hb
theorem snd_all (m : Int) (w0 : World) (hw : OKW m w0) : ∀ x, EV x → SndC w0 x := by
  intro x
  induction x using ex_ind with
  | h o v s kids ih =>
    intro hev cs d l lb w hx hs hd hl0 hl1
    obtain ⟨A, c, f, rfl, hn, hxk, hck⟩ := hx.inv
    cases hev with
    | mk _ _ _ _ hv hk =>
      have hwr : IntKind.i64.wrap (l - 1) = l - 1 := IntWalk.i64_in _ (by omega)
      have H := snd_node o v.k v.n v.s v.m (bs v.t) (bs s) A kids.length c d lb l (l - 1) (kidsN o) w0 w (sndL kids (d + 1) (l - 1)) _ _ _ _ _ hs hwr rfl hd rfl rfl rfl
        (Lib.hid fun W => word_any (bs s) s rfl (wordB s) rfl W)
        (Lib.hid fun W hb => vsd_any v hv m W (hw.step hb))
        (Lib.hid fun h1 h2 D P W hW hC => scont_walk A kids.length c D P lb (sndL kids (d + 1) (l - 1)) w0 W (Lib.hid fun W' e => by
          subst e
          exact sidx_walk kids A c D P lb (d + 1) d (by rw [IntWalk.i64_in _ (by omega)]; omega) (by omega) f w0 hn hxk hck (fun k hkm => ih k hkm (hk k hkm)) (l - 1) h2 (by omega) W' hW hC))
      rw [okB_eq] at H
      refine H.mono ?_
      rintro e w' ⟨rfl, h1, h2⟩
      have E : sndE (.mk o v s kids) d l = if ((decide (d ≤ 64) && (decide (0 ≤ l - 1) && decide ((kids.length : Int) = kidsN o))) && okE o v s) = true then sndL kids (d + 1) (l - 1) else (false, l - 1) := by
        rw [sndE]
        simp only [Bool.and_eq_true, decide_eq_true_eq, and_assoc]
      rw [E]
      by_cases hc : ((decide (d ≤ 64) && (decide (0 ≤ l - 1) && decide ((kids.length : Int) = kidsN o))) && okE o v s) = true
      · rw [if_pos hc] at h1 ⊢
        refine ⟨?_, h1, h2⟩
        rw [← Bool.and_assoc, hc, Bool.true_and]
      · rw [if_neg hc] at h1 ⊢
        refine ⟨?_, h1, h2⟩
        rw [← Bool.and_assoc, Bool.not_eq_true _ |>.mp hc, Bool.false_and]
set_option maxHeartbeats 4000000 in
set_option maxRecDepth 100000 in
theorem sound_walk (o k n s m : Int) (q r : ByteArray) (A : Option Addr) (l c : Nat) (b : Bool) (w : World)
    (KS : Hid (∀ W lb, SB w W lb 4096 → Calls Tryz.prog 68 #[.agg #[.int .i64 o, .int .i64 k, .int .i64 n, .int .i64 s, .string q, .int .i64 m, .string r, .slice A l c], .int .i64 1, .pointer (some ⟨lb, 0, none⟩)] W fun e w' => e = .returned (.bool b) ∧ Below w.heap.size w w')) :
    Calls Tryz.prog 32 #[.agg #[.int .i64 o, .int .i64 k, .int .i64 n, .int .i64 s, .string q, .int .i64 m, .string r, .slice A l c]] w fun e w' => e = .returned (.bool b) ∧ Below w.heap.size w w' := by
  go_enter Tryz.func32, Tryz.ntmps32
  go_wp2_with fail
  refine (KS.out _ _ ⟨by (repeat' (first | (with_reducible exact Below.refl _ _) | (with_reducible assumption) | (with_reducible refine balloc ?_ _) | (with_reducible refine Below.drew ?_) | (with_reducible refine bset ?_ ?_ _) | (with_reducible refine bstep ?_ (by with_reducible assumption)) | (with_reducible refine bturn ?_ (by with_reducible assumption) ?_) | go_size)), Blk.new' _ _ _ (by simp), by omega⟩).mono ?_
  rintro e w1 ⟨rfl, hb⟩
  go_wp2_with fail
  go_returns
  exact ⟨rfl, hb⟩
theorem sound_any' (x : Ex) (cs : Array Value) (m : Int) (w : World) (hw : OKW m w) (hx : XM (fun _ => True) w x cs) (hv : EV x) :
    Calls Tryz.prog 32 #[.agg cs] w fun e w' => e = .returned (.bool (soundX x)) ∧ Below w.heap.size w w' := by
  obtain ⟨A, c, hcs⟩ := hx.get
  subst hcs
  refine sound_walk _ _ _ _ _ _ _ _ _ _ _ w (Lib.hid fun W lb hs => ?_)
  refine (snd_all m w hw x hv _ 1 4096 lb W hx hs (by decide) (by decide) (by decide)).mono ?_
  rintro e w' ⟨rfl, h1, _⟩
  exact ⟨rfl, h1.bel⟩
end Go.Proofs.YtkkeplmaphcblaaGreatDoor

namespace Go.Proofs.YtkkeplmaphcblaaGreatDoor
open Go.RowKit

/-- The parser q goes through the tokens of p, behind it, and has made no less. -/
structure Fw (p q : PS) : Prop where
  L : q.L = p.L
  nx : p.nx ≤ q.nx
  md : p.md ≤ q.md
section
variable {p q r : PS} {W : Bs → Bool}
theorem Fw.refl (p : PS) : Fw p p := ⟨rfl, Nat.le_refl _, Int.le_refl _⟩
theorem Fw.trans (h : Fw p q) (k : Fw q r) : Fw p r := ⟨k.L.trans h.L, Nat.le_trans h.nx k.nx, Int.le_trans h.md k.md⟩
theorem fw_fail (p : PS) (k : Int) : Fw p (p.fail k) := by
  obtain ⟨h1, h2, h3, _⟩ := fail_p p k
  exact ⟨h3, Nat.le_of_eq h2.symm, Int.le_of_eq h1.symm⟩
theorem fw_adv (p : PS) : Fw p p.adv := ⟨rfl, Nat.le_succ _, Int.le_refl _⟩
theorem fw_need (p : PS) (s : Bs) : Fw p (p.need s) := by
  unfold PS.need
  split
  · exact fw_adv p
  · exact fw_fail p 5
theorem fw_made (p : PS) : Fw p p.made := ⟨made_L p, Nat.le_of_eq (made_nx p).symm, by rw [made_md]; omega⟩
theorem fw_deep (p : PS) (d : Nat) : Fw p (p.deep d) := by
  unfold PS.deep
  split
  · exact fw_fail p 9
  · exact Fw.refl p
theorem fw_all (W : Bs → Bool) : ∀ f,
    (∀ (p : PS) (d : Nat), Fw p (exprF W f p d).2) ∧
    (∀ (p : PS) (d n : Nat), Fw p (chainF W f p d n).2) ∧
    (∀ (x : Ex) (p : PS) (d n : Nat), Fw p (moreF W f x p d n).2) ∧
    (∀ (p : PS) (d : Nat), Fw p (prefixF W f p d).2)
  | 0 => by
    refine ⟨fun p d => ?_, fun p d n => ?_, fun x p d n => ?_, fun p d => ?_⟩
    · unfold exprF; exact Fw.refl p
    · unfold chainF; exact Fw.refl p
    · unfold moreF; exact Fw.refl p
    · unfold prefixF; exact Fw.refl p
  | f + 1 => by
    obtain ⟨hE, hC, hM, hP⟩ := fw_all W f
    refine ⟨fun p d => ?_, fun p d n => ?_, fun x p d n => ?_, fun p d => ?_⟩
    · unfold exprF
      split
      · exact ((((((fw_deep p d).trans (fw_adv _)).trans (hE _ d)).trans (fw_need _ bThen)).trans (hE _ d)).trans (fw_need _ bElse)).trans (hE _ d) |>.trans (fw_made _)
      · exact (fw_deep p d).trans (hC _ d 0)
    · unfold chainF
      split
      · exact hP p d
      · exact (hC p d (n + 1)).trans (hM _ _ d n)
    · unfold moreF
      split
      · split
        · exact Fw.refl p
        · dsimp only
          split
          · exact ((fw_adv p).trans (hC _ d (n + 1))).trans (fw_made _)
          · exact (((fw_adv p).trans (hC _ d (n + 1))).trans (fw_made _)).trans (hM _ _ d n)
      · exact Fw.refl p
    · unfold prefixF
      split
      · split
        · exact ((fw_adv p).trans (hP _ d)).trans (fw_made _)
        · split
          · exact ((fw_adv p).trans (hE _ (d + 1))).trans (fw_need _ [41])
          · split
            · exact ((((fw_adv p).trans (fw_need _ [40])).trans (hE _ (d + 1))).trans (fw_need _ [41])).trans (fw_made _)
            · split
              · exact (fw_adv p).trans (fw_made _)
              · split
                · exact fw_fail p 5
                · split
                  · exact (fw_made p).trans (fw_adv _)
                  · exact fw_fail p 5
      · exact Fw.refl p

/-- How a parser stands that makes expressions: no more made than taken (c fewer), k tokens left at most. -/
structure Rm (c : Int) (k : Nat) (p : PS) : Prop where
  lo : 0 ≤ p.md
  md : p.md + c ≤ p.nx
  le : p.nx ≤ p.L.length
  k : p.L.length - p.nx ≤ k
  big : p.L.length ≤ 100000
variable {c : Int} {k : Nat} {s : Bs}
theorem Rm.inv (h : Rm c k p) : Inv c p := ⟨h.md, h.le⟩
theorem Rm.of (h : Rm c k p) (hi : Inv c q) (hf : Fw p q) : Rm c k q := ⟨Int.le_trans h.lo hf.md, hi.md, hi.le, by have := hf.nx; have := h.k; rw [hf.L]; omega, by rw [hf.L]; exact h.big⟩
theorem Rm.fail (h : Rm c k p) (e : Int) : Rm c k (p.fail e) := h.of (h.inv.fail e) (fw_fail p e)
theorem Rm.need (h : Rm c k p) (s : Bs) : Rm c k (p.need s) := h.of (h.inv.need s).1 (fw_need p s)
theorem Rm.deep (h : Rm c k p) (d : Nat) : Rm c k (p.deep d) := h.of (h.inv.deep d).1 (fw_deep p d)
theorem Rm.made (h : Rm (c + 1) k p) : Rm c k p.made := ⟨by rw [made_md]; have := h.lo; omega, h.inv.made.md, h.inv.made.le, by rw [made_L, made_nx]; exact h.k, by rw [made_L]; exact h.big⟩
theorem Rm.less (h : Rm (c + 1) k p) : Rm c k p := ⟨h.lo, by have := h.md; omega, h.le, h.k, h.big⟩
theorem Rm.adv (h : Rm c k p) (hn : p.nx < p.L.length) : Rm (c + 1) (k - 1) p.adv := by
  have h1 := h.inv.adv hn
  exact ⟨h.lo, h1.md, h1.le, by have := h.k; show p.L.length - (p.nx + 1) ≤ k - 1; omega, h.big⟩
theorem Rm.pos (h : Rm c k p) (hn : p.nx < p.L.length) : 1 ≤ k := by have := h.k; omega
theorem Rm.expr (h : Rm c k p) (f d : Nat) : Rm c k (exprF W f p d).2 := h.of (((inv_all W f).1 p d c h.inv).1) ((fw_all W f).1 p d)
theorem Rm.chain (h : Rm c k p) (f d n : Nat) : Rm c k (chainF W f p d n).2 := h.of (((inv_all W f).2.1 p d n c h.inv).1) ((fw_all W f).2.1 p d n)
theorem Rm.prefix_ (h : Rm c k p) (f d : Nat) : Rm c k (prefixF W f p d).2 := h.of (((inv_all W f).2.2.2 p d c h.inv).1) ((fw_all W f).2.2.2 p d)
end
end Go.Proofs.YtkkeplmaphcblaaGreatDoor

namespace Go.Proofs.YtkkeplmaphcblaaGreatDoor
open Go.RowKit

theorem PB.turnF {w0 w w' : World} {b g : Nat} {A : Option Addr} {c : Nat} {p0 p : PS} (h0 : PB w0 b A c p0) (hL : p0.L = p.L) (h : PB w b A c p) (ht : Turned w w' g) (hg : w0.heap.size ≤ g) : PB w' b A c p := by
  refine ⟨h.blk.turn ht ?_, h.tm.gr ((Gr.refl g w).turn ht) ?_, h.nb, h.le, h.big⟩
  · have := h0.blk.lt; omega
  · intro i t g' o hi hA
    obtain ⟨g2, o2, e2, hc⟩ := h0.tm i t (by rw [hL]; exact hi)
    rw [hA] at e2
    injection e2 with e2
    injection e2 with e3 e4
    have := block_lt_of_cell (hc 0 _ rfl)
    simp only at this
    omega
/-- What Value comes to. -/
def ValOut (b : Nat) (A : Option Addr) (c : Nat) (p : PS) (w : World) : Option Vl → Ending → World → Prop
  | some v, e, w' => e = .returned (.tuple #[.agg (cellsV v), .bool true]) ∧ PB w' b A c p.adv ∧ Gr b w w'
  | none, e, w' => e = .returned (.tuple #[.agg (cellsV zeroV), .bool false]) ∧ PB w' b A c p ∧ Gr b w w'
set_option maxHeartbeats 16000000 in
set_option maxRecDepth 100000 in
theorem value_tok (b : Nat) (A : Option Addr) (c : Nat) (p : PS) (w : World) (h : PB w b A c p) (he : p.e = 0) (t : Tk) (ht : p.L[p.nx]? = some t)
    (T F N : Bool) (hT : p.isS trueB = T) (hF : p.isS falseB = F) (hN : p.isS nullB = N) (O : Option Vl)
    (hO : (if t.k = 1 then some (⟨1, t.n, t.s, [], 0⟩ : Vl) else if t.k = 2 then some ⟨2, 0, 0, t.t, 0⟩ else if t.k = 3 then some ⟨4, 0, 0, [], t.m⟩ else if T = true then some ⟨3, 0, 0, [], 1⟩ else if F = true then some ⟨3, 0, 0, [], 0⟩ else if N = true then some zeroV else none) = O) :
    Calls Tryz.prog 168 #[.pointer (some ⟨b, 0, none⟩)] w fun e w' => ValOut b A c p w O e w' := by
  have hn : p.nx < p.L.length := (List.getElem?_eq_some_iff.1 ht).1
  have hni : ¬ (p.L.length : Int) ≤ (p.nx : Int) := by omega
  have hni2 : (p.nx : Int) < (p.L.length : Int) := by omega
  have hnx : IntKind.i64.wrap ((p.nx : Int) + 1) = (p.nx : Int) + 1 := IntWalk.i64_in _ (by have := h.big; omega)
  have H := Lib.hid h
  have HT := Lib.hid ht
  have HE := Lib.hid he
  have HL := Lib.hid hn
  have K1 := Lib.hid (is_any b A c p trueB)
  have K2 := Lib.hid (is_any b A c p falseB)
  have K3 := Lib.hid (is_any b A c p nullB)
  rw [hT] at K1
  rw [hF] at K2
  rw [hN] at K3
  have HO := Lib.hid hO
  obtain ⟨tk, ta, tt, tn, ts, tmm⟩ := t
  have hbp := (h).blk; have hlp := hbp.lt; have hllp := lts hlp; have qp0 := hbp.cell 0; have qp1 := hbp.cell 1; have qp2 := hbp.cell 2; have qp3 := hbp.cell 3; have qp4 := hbp.cell 4; have qp5 := hbp.cell 5; simp at qp0 qp1 qp2 qp3 qp4 qp5; have zp0 := hbp.frozen 0; have zp1 := hbp.frozen 1; have zp2 := hbp.frozen 2; have zp3 := hbp.frozen 3; have zp4 := hbp.frozen 4; have zp5 := hbp.frozen 5; have Hhbp := Lib.hid hbp; clear hbp
  rw [he] at qp4
  clear h ht he hn hT hF hN hO
  go_enter Tryz.func168, Tryz.ntmps168
  go_wp2_with fail
  go_quiet (fail)
  have k1 : Blk ((w.alloc (.cells #[.int .i64 0, .int .i64 0, .int .i64 0, .string ⟨#[]⟩, .int .i64 0] 25)).drewN nq) w.heap.size 25 #[.int .i64 0, .int .i64 0, .int .i64 0, .string ⟨#[]⟩, .int .i64 0] := (Blk.new _ _ _).drewN nq
  have hb1 : Below w.heap.size w ((w.alloc (.cells #[.int .i64 0, .int .i64 0, .int .i64 0, .string ⟨#[]⟩, .int .i64 0] 25)).drewN nq) := by (repeat' (first | (with_reducible refine bdrewN ?_ _) | (with_reducible exact Below.refl _ _) | (with_reducible assumption) | (with_reducible refine balloc ?_ _) | (with_reducible refine Below.drew ?_) | (with_reducible refine bset ?_ ?_ _) | (with_reducible refine bstep ?_ (by with_reducible assumption)) | (with_reducible refine bturn ?_ (by with_reducible assumption) ?_) | go_size))
  generalize (w.alloc (.cells #[.int .i64 0, .int .i64 0, .int .i64 0, .string ⟨#[]⟩, .int .i64 0] 25)).drewN nq = w1 at *
  clear qp0 zp0 qp1 zp1 qp2 zp2 qp3 zp3 qp4 zp4 qp5 zp5 hlp hllp Hhbp
  have h1 := H.out.step hb1
  obtain ⟨g, f, rfl, c0, c1, c2, c3, c4, c5⟩ := tm_get h1.tm HT.out
  simp only at c0 c1 c2 c3 c4 c5
  have hlg : g < w1.heap.size := block_lt_of_cell c0
  have hllg := lts hlg
  have hlb := k1.lt
  have hllb := lts hlb
  obtain ⟨q, hq⟩ : ∃ q, bs tt = q := ⟨_, rfl⟩
  rw [hq] at c2
  have hbr := (h1).blk; have hlr := hbr.lt; have hllr := lts hlr; have qr0 := hbr.cell 0; have qr1 := hbr.cell 1; have qr2 := hbr.cell 2; have qr3 := hbr.cell 3; have qr4 := hbr.cell 4; have qr5 := hbr.cell 5; simp at qr0 qr1 qr2 qr3 qr4 qr5; have zr0 := hbr.frozen 0; have zr1 := hbr.frozen 1; have zr2 := hbr.frozen 2; have zr3 := hbr.frozen 3; have zr4 := hbr.frozen 4; have zr5 := hbr.frozen 5; have Hhbr := Lib.hid hbr; clear hbr
  rw [HE.out] at qr4
  have H1 := Lib.hid h1
  clear h1
  go_wp2_with fail
  go_region
  all_goals
    have k2 : Blk ((w1.alloc (.cells #[.int .i64 tk, .int .i64 (ta : Int), .string q, .int .i64 tn, .int .i64 ts, .int .i64 tmm] 149)).drew) w1.heap.size 149 #[.int .i64 tk, .int .i64 (ta : Int), .string q, .int .i64 tn, .int .i64 ts, .int .i64 tmm] := (Blk.new _ _ _).drew
    have k1' : Blk ((w1.alloc (.cells #[.int .i64 tk, .int .i64 (ta : Int), .string q, .int .i64 tn, .int .i64 ts, .int .i64 tmm] 149)).drew) w.heap.size 25 #[.int .i64 0, .int .i64 0, .int .i64 0, .string ⟨#[]⟩, .int .i64 0] := (k1.alloc _).drew
    have hb2 : Below w1.heap.size w1 ((w1.alloc (.cells #[.int .i64 tk, .int .i64 (ta : Int), .string q, .int .i64 tn, .int .i64 ts, .int .i64 tmm] 149)).drew) := by (repeat' (first | (with_reducible exact Below.refl _ _) | (with_reducible assumption) | (with_reducible refine balloc ?_ _) | (with_reducible refine Below.drew ?_) | (with_reducible refine bset ?_ ?_ _) | (with_reducible refine bstep ?_ (by with_reducible assumption)) | (with_reducible refine bturn ?_ (by with_reducible assumption) ?_) | go_size))
    generalize (w1.alloc (.cells #[.int .i64 tk, .int .i64 (ta : Int), .string q, .int .i64 tn, .int .i64 ts, .int .i64 tmm] 149)).drew = w2 at *
    clear c0 c1 c2 c3 c4 c5 hllg hlg hlb hllb
    clear qr0 zr0 qr1 zr1 qr2 zr2 qr3 zr3 qr4 zr4 qr5 zr5 hlr hllr Hhbr
    have h2 := H1.out.step hb2
    have hb3 : Below w.heap.size w w2 := bstep hb1 hb2
    have hz1 := hb1.size
    have hz2 := hb2.size
    have hlk := k2.lt
    have hlj := k1'.lt
    have H2 := Lib.hid h2
    have hlb := h2.blk.lt
    have hlw := H.out.blk.lt
    have HQ := Lib.hid hq
    have k3 : Blk (w2.alloc (.cells #[.int .i64 0, .int .i64 0, .int .i64 0, .string ⟨#[]⟩, .int .i64 0] 25)) w2.heap.size 25 #[.int .i64 0, .int .i64 0, .int .i64 0, .string ⟨#[]⟩, .int .i64 0] := Blk.new _ _ _
    have HK1 := Lib.hid k1'
    go_upto_region 5 with (refine wpList_store_blk k3 rfl _ _ _ (by rfl) _ (by rfl) (by rfl) (by (repeat (first | (with_reducible exact k3) | (with_reducible refine Blk.alloc ?_ _) | (with_reducible refine Blk.drew ?_) | (with_reducible refine Blk.far ?_ (by first | (simp; done) | (simp; omega)) _) | (with_reducible refine Blk.turn ?_ (by with_reducible assumption) (by omega))))) (by rfl) (by kernel_rfl) (by simp [Value.oneCell']) ?_; intro wt k3n ht)
    have hb4 : Below w2.heap.size w2 wt := bturn (balloc (Below.refl _ _) _) ht (Nat.le_refl _)
    have k2t := k2.step hb4
    have h4 := h2.step hb4
    have G0 := Lib.hid h4
    have hs4 : w2.heap.size < wt.heap.size := k3n.lt
    clear k2 k1' h2 k3 hlk hlj
    by_cases e1 : tk = 1
    · subst e1
      have hlt := k2t.lt; have hllt := lts hlt; have qt0 := k2t.cell 0; have qt1 := k2t.cell 1; have qt2 := k2t.cell 2; have qt3 := k2t.cell 3; have qt4 := k2t.cell 4; have qt5 := k2t.cell 5; simp at qt0 qt1 qt2 qt3 qt4 qt5; have zt0 := k2t.frozen 0; have zt1 := k2t.frozen 1; have zt2 := k2t.frozen 2; have zt3 := k2t.frozen 3; have zt4 := k2t.frozen 4; have zt5 := k2t.frozen 5; have Hk2t := Lib.hid k2t; clear k2t
      clear h4
      go_upto_region 17 with (refine wpList_store_blk k3n rfl _ _ _ (by rfl) _ (by rfl) (by rfl) (by (repeat (first | (with_reducible exact k3n) | (with_reducible refine Blk.alloc ?_ _) | (with_reducible refine Blk.drew ?_) | (with_reducible refine Blk.far ?_ (by first | (simp; done) | (simp; omega)) _) | (with_reducible refine Blk.turn ?_ (by with_reducible assumption) (by omega))))) (by rfl) (by kernel_rfl) (by simp [Value.oneCell']) ?_; intro wt k3nn ht)
      have hbv : Below w2.heap.size w2 wt := bturn hb4 ht (Nat.le_refl _)
      have h5 := H2.out.step hbv
      have H5 := Lib.hid h5
      have k1v := HK1.out.step hbv
      have hsv : w2.heap.size < wt.heap.size := (k3nn).lt
      have hbs := (h5).blk; have hls := hbs.lt; have hlls := lts hls; have qs0 := hbs.cell 0; have qs1 := hbs.cell 1; have qs2 := hbs.cell 2; have qs3 := hbs.cell 3; have qs4 := hbs.cell 4; have qs5 := hbs.cell 5; simp at qs0 qs1 qs2 qs3 qs4 qs5; have zs0 := hbs.frozen 0; have zs1 := hbs.frozen 1; have zs2 := hbs.frozen 2; have zs3 := hbs.frozen 3; have zs4 := hbs.frozen 4; have zs5 := hbs.frozen 5; have Hhbs := Lib.hid hbs; clear hbs
      clear h5
      go_wp2_with (first | (refine wpList_load_blk k3nn rfl _ _ (by rfl) (by rfl) (by (repeat (first | (with_reducible exact k3nn) | (with_reducible refine Blk.alloc ?_ _) | (with_reducible refine Blk.drew ?_) | (with_reducible refine Blk.far ?_ (by first | (simp; done) | (simp; omega)) _) | (with_reducible refine Blk.turn ?_ (by with_reducible assumption) (by omega))))) _ Tryz.underlying25 rfl (by kernel_rfl) ?_) | (refine wpList_store_blk k1v rfl _ _ _ (by rfl) _ (by rfl) (by rfl) (by (repeat (first | (with_reducible exact k1v) | (with_reducible refine Blk.alloc ?_ _) | (with_reducible refine Blk.drew ?_) | (with_reducible refine Blk.far ?_ (by first | (simp; done) | (simp; omega)) _) | (with_reducible refine Blk.turn ?_ (by with_reducible assumption) (by omega))))) (by rfl) (by kernel_rfl) (by simp [Value.oneCell']) ?_; intro wt k1vn ht))
      refine ret_blk2 rfl k1vn rfl Tryz.underlying25 rfl (by kernel_rfl) rfl ?_
      obtain rfl : (some ⟨1, tn, ts, [], 0⟩ : Option Vl) = O := HO.out
      exact ⟨by rfl, H.out.turnF rfl (H5.out.adv HL.out) ht (Nat.le_refl _), Gr.turnFar ((Gr.of (bstep hb3 hbv)).set 1 _) ht (Nat.le_refl _)⟩
    · by_cases e2 : tk = 2
      · subst e2
        have hlt := k2t.lt; have hllt := lts hlt; have qt0 := k2t.cell 0; have qt1 := k2t.cell 1; have qt2 := k2t.cell 2; have qt3 := k2t.cell 3; have qt4 := k2t.cell 4; have qt5 := k2t.cell 5; simp at qt0 qt1 qt2 qt3 qt4 qt5; have zt0 := k2t.frozen 0; have zt1 := k2t.frozen 1; have zt2 := k2t.frozen 2; have zt3 := k2t.frozen 3; have zt4 := k2t.frozen 4; have zt5 := k2t.frozen 5; have Hk2t := Lib.hid k2t; clear k2t
        clear h4
        go_upto_region 17 with (refine wpList_store_blk k3n rfl _ _ _ (by rfl) _ (by rfl) (by rfl) (by (repeat (first | (with_reducible exact k3n) | (with_reducible refine Blk.alloc ?_ _) | (with_reducible refine Blk.drew ?_) | (with_reducible refine Blk.far ?_ (by first | (simp; done) | (simp; omega)) _) | (with_reducible refine Blk.turn ?_ (by with_reducible assumption) (by omega))))) (by rfl) (by kernel_rfl) (by simp [Value.oneCell']) ?_; intro wt k3nn ht)
        have hbv : Below w2.heap.size w2 wt := bturn hb4 ht (Nat.le_refl _)
        have h5 := H2.out.step hbv
        have H5 := Lib.hid h5
        have k1v := HK1.out.step hbv
        have hsv : w2.heap.size < wt.heap.size := (k3nn).lt
        have hbs := (h5).blk; have hls := hbs.lt; have hlls := lts hls; have qs0 := hbs.cell 0; have qs1 := hbs.cell 1; have qs2 := hbs.cell 2; have qs3 := hbs.cell 3; have qs4 := hbs.cell 4; have qs5 := hbs.cell 5; simp at qs0 qs1 qs2 qs3 qs4 qs5; have zs0 := hbs.frozen 0; have zs1 := hbs.frozen 1; have zs2 := hbs.frozen 2; have zs3 := hbs.frozen 3; have zs4 := hbs.frozen 4; have zs5 := hbs.frozen 5; have Hhbs := Lib.hid hbs; clear hbs
        clear h5
        go_wp2_with (first | (refine wpList_load_blk k3nn rfl _ _ (by rfl) (by rfl) (by (repeat (first | (with_reducible exact k3nn) | (with_reducible refine Blk.alloc ?_ _) | (with_reducible refine Blk.drew ?_) | (with_reducible refine Blk.far ?_ (by first | (simp; done) | (simp; omega)) _) | (with_reducible refine Blk.turn ?_ (by with_reducible assumption) (by omega))))) _ Tryz.underlying25 rfl (by kernel_rfl) ?_) | (refine wpList_store_blk k1v rfl _ _ _ (by rfl) _ (by rfl) (by rfl) (by (repeat (first | (with_reducible exact k1v) | (with_reducible refine Blk.alloc ?_ _) | (with_reducible refine Blk.drew ?_) | (with_reducible refine Blk.far ?_ (by first | (simp; done) | (simp; omega)) _) | (with_reducible refine Blk.turn ?_ (by with_reducible assumption) (by omega))))) (by rfl) (by kernel_rfl) (by simp [Value.oneCell']) ?_; intro wt k1vn ht))
        refine ret_blk2 rfl k1vn rfl Tryz.underlying25 rfl (by kernel_rfl) rfl ?_
        obtain rfl : (some ⟨2, 0, 0, tt, 0⟩ : Option Vl) = O := by have h := HO.out; rw [if_neg e1] at h; exact h
        exact ⟨by subst hq; rfl, H.out.turnF rfl (H5.out.adv HL.out) ht (Nat.le_refl _), Gr.turnFar ((Gr.of (bstep hb3 hbv)).set 1 _) ht (Nat.le_refl _)⟩
      · by_cases e3 : tk = 3
        · subst e3
          have hlt := k2t.lt; have hllt := lts hlt; have qt0 := k2t.cell 0; have qt1 := k2t.cell 1; have qt2 := k2t.cell 2; have qt3 := k2t.cell 3; have qt4 := k2t.cell 4; have qt5 := k2t.cell 5; simp at qt0 qt1 qt2 qt3 qt4 qt5; have zt0 := k2t.frozen 0; have zt1 := k2t.frozen 1; have zt2 := k2t.frozen 2; have zt3 := k2t.frozen 3; have zt4 := k2t.frozen 4; have zt5 := k2t.frozen 5; have Hk2t := Lib.hid k2t; clear k2t
          clear h4
          go_upto_region 17 with (refine wpList_store_blk k3n rfl _ _ _ (by rfl) _ (by rfl) (by rfl) (by (repeat (first | (with_reducible exact k3n) | (with_reducible refine Blk.alloc ?_ _) | (with_reducible refine Blk.drew ?_) | (with_reducible refine Blk.far ?_ (by first | (simp; done) | (simp; omega)) _) | (with_reducible refine Blk.turn ?_ (by with_reducible assumption) (by omega))))) (by rfl) (by kernel_rfl) (by simp [Value.oneCell']) ?_; intro wt k3nn ht)
          have hbv : Below w2.heap.size w2 wt := bturn hb4 ht (Nat.le_refl _)
          have h5 := H2.out.step hbv
          have H5 := Lib.hid h5
          have k1v := HK1.out.step hbv
          have hsv : w2.heap.size < wt.heap.size := (k3nn).lt
          have hbs := (h5).blk; have hls := hbs.lt; have hlls := lts hls; have qs0 := hbs.cell 0; have qs1 := hbs.cell 1; have qs2 := hbs.cell 2; have qs3 := hbs.cell 3; have qs4 := hbs.cell 4; have qs5 := hbs.cell 5; simp at qs0 qs1 qs2 qs3 qs4 qs5; have zs0 := hbs.frozen 0; have zs1 := hbs.frozen 1; have zs2 := hbs.frozen 2; have zs3 := hbs.frozen 3; have zs4 := hbs.frozen 4; have zs5 := hbs.frozen 5; have Hhbs := Lib.hid hbs; clear hbs
          clear h5
          go_wp2_with (first | (refine wpList_load_blk k3nn rfl _ _ (by rfl) (by rfl) (by (repeat (first | (with_reducible exact k3nn) | (with_reducible refine Blk.alloc ?_ _) | (with_reducible refine Blk.drew ?_) | (with_reducible refine Blk.far ?_ (by first | (simp; done) | (simp; omega)) _) | (with_reducible refine Blk.turn ?_ (by with_reducible assumption) (by omega))))) _ Tryz.underlying25 rfl (by kernel_rfl) ?_) | (refine wpList_store_blk k1v rfl _ _ _ (by rfl) _ (by rfl) (by rfl) (by (repeat (first | (with_reducible exact k1v) | (with_reducible refine Blk.alloc ?_ _) | (with_reducible refine Blk.drew ?_) | (with_reducible refine Blk.far ?_ (by first | (simp; done) | (simp; omega)) _) | (with_reducible refine Blk.turn ?_ (by with_reducible assumption) (by omega))))) (by rfl) (by kernel_rfl) (by simp [Value.oneCell']) ?_; intro wt k1vn ht))
          refine ret_blk2 rfl k1vn rfl Tryz.underlying25 rfl (by kernel_rfl) rfl ?_
          obtain rfl : (some ⟨4, 0, 0, [], tmm⟩ : Option Vl) = O := by have h := HO.out; rw [if_neg e1, if_neg e2] at h; exact h
          exact ⟨by rfl, H.out.turnF rfl (H5.out.adv HL.out) ht (Nat.le_refl _), Gr.turnFar ((Gr.of (bstep hb3 hbv)).set 1 _) ht (Nat.le_refl _)⟩
        · have HO : Hid ((if T = true then some (⟨3, 0, 0, [], 1⟩ : Vl) else if F = true then some ⟨3, 0, 0, [], 0⟩ else if N = true then some zeroV else none) = O) := Lib.hid (by have h := HO.out; rw [if_neg e1, if_neg e2, if_neg e3] at h; exact h)
          have hlt := k2t.lt; have hllt := lts hlt; have qt0 := k2t.cell 0; have qt1 := k2t.cell 1; have qt2 := k2t.cell 2; have qt3 := k2t.cell 3; have qt4 := k2t.cell 4; have qt5 := k2t.cell 5; simp at qt0 qt1 qt2 qt3 qt4 qt5; have zt0 := k2t.frozen 0; have zt1 := k2t.frozen 1; have zt2 := k2t.frozen 2; have zt3 := k2t.frozen 3; have zt4 := k2t.frozen 4; have zt5 := k2t.frozen 5; have Hk2t := Lib.hid k2t; clear k2t
          clear h4
          go_upto_region 11 with fail
          go_wp2_with fail
          refine (K1.out _ G0.out).mono ?_
          rintro e v0 ⟨rfl, hc0⟩
          have d0 : Below w2.heap.size w2 v0 := bstep hb4 hc0
          have k3v0 := k3n.step hc0
          have hsv0 : w2.heap.size < v0.heap.size := k3v0.lt
          have G1 := Lib.hid (G0.out.step hc0)
          cases T with
          | true =>
            go_upto_region 17 with (refine wpList_store_blk k3v0 rfl _ _ _ (by rfl) _ (by rfl) (by rfl) (by (repeat (first | (with_reducible exact k3v0) | (with_reducible refine Blk.alloc ?_ _) | (with_reducible refine Blk.drew ?_) | (with_reducible refine Blk.far ?_ (by first | (simp; done) | (simp; omega)) _) | (with_reducible refine Blk.turn ?_ (by with_reducible assumption) (by omega))))) (by rfl) (by kernel_rfl) (by simp [Value.oneCell']) ?_; intro wt k3v0n ht)
            have hbv : Below w2.heap.size w2 wt := bturn d0 ht (Nat.le_refl _)
            have h5 := H2.out.step hbv
            have H5 := Lib.hid h5
            have k1v := HK1.out.step hbv
            have hsv : w2.heap.size < wt.heap.size := (k3v0n).lt
            have hbs := (h5).blk; have hls := hbs.lt; have hlls := lts hls; have qs0 := hbs.cell 0; have qs1 := hbs.cell 1; have qs2 := hbs.cell 2; have qs3 := hbs.cell 3; have qs4 := hbs.cell 4; have qs5 := hbs.cell 5; simp at qs0 qs1 qs2 qs3 qs4 qs5; have zs0 := hbs.frozen 0; have zs1 := hbs.frozen 1; have zs2 := hbs.frozen 2; have zs3 := hbs.frozen 3; have zs4 := hbs.frozen 4; have zs5 := hbs.frozen 5; have Hhbs := Lib.hid hbs; clear hbs
            clear h5
            go_wp2_with (first | (refine wpList_load_blk k3v0n rfl _ _ (by rfl) (by rfl) (by (repeat (first | (with_reducible exact k3v0n) | (with_reducible refine Blk.alloc ?_ _) | (with_reducible refine Blk.drew ?_) | (with_reducible refine Blk.far ?_ (by first | (simp; done) | (simp; omega)) _) | (with_reducible refine Blk.turn ?_ (by with_reducible assumption) (by omega))))) _ Tryz.underlying25 rfl (by kernel_rfl) ?_) | (refine wpList_store_blk k1v rfl _ _ _ (by rfl) _ (by rfl) (by rfl) (by (repeat (first | (with_reducible exact k1v) | (with_reducible refine Blk.alloc ?_ _) | (with_reducible refine Blk.drew ?_) | (with_reducible refine Blk.far ?_ (by first | (simp; done) | (simp; omega)) _) | (with_reducible refine Blk.turn ?_ (by with_reducible assumption) (by omega))))) (by rfl) (by kernel_rfl) (by simp [Value.oneCell']) ?_; intro wt k1vn ht))
            refine ret_blk2 rfl k1vn rfl Tryz.underlying25 rfl (by kernel_rfl) rfl ?_
            obtain rfl : (some ⟨3, 0, 0, [], 1⟩ : Option Vl) = O := HO.out
            exact ⟨by rfl, H.out.turnF rfl (H5.out.adv HL.out) ht (Nat.le_refl _), Gr.turnFar ((Gr.of (bstep hb3 hbv)).set 1 _) ht (Nat.le_refl _)⟩
          | false =>
            go_wp2_with fail
            refine (K2.out _ G1.out).mono ?_
            rintro e v1 ⟨rfl, hc1⟩
            have d1 : Below w2.heap.size w2 v1 := bstep d0 hc1
            have k3v1 := k3v0.step hc1
            have hsv1 : w2.heap.size < v1.heap.size := k3v1.lt
            have G2 := Lib.hid (G1.out.step hc1)
            cases F with
            | true =>
              go_upto_region 17 with (refine wpList_store_blk k3v1 rfl _ _ _ (by rfl) _ (by rfl) (by rfl) (by (repeat (first | (with_reducible exact k3v1) | (with_reducible refine Blk.alloc ?_ _) | (with_reducible refine Blk.drew ?_) | (with_reducible refine Blk.far ?_ (by first | (simp; done) | (simp; omega)) _) | (with_reducible refine Blk.turn ?_ (by with_reducible assumption) (by omega))))) (by rfl) (by kernel_rfl) (by simp [Value.oneCell']) ?_; intro wt k3v1n ht)
              have hbv : Below w2.heap.size w2 wt := bturn d1 ht (Nat.le_refl _)
              have h5 := H2.out.step hbv
              have H5 := Lib.hid h5
              have k1v := HK1.out.step hbv
              have hsv : w2.heap.size < wt.heap.size := (k3v1n).lt
              have hbs := (h5).blk; have hls := hbs.lt; have hlls := lts hls; have qs0 := hbs.cell 0; have qs1 := hbs.cell 1; have qs2 := hbs.cell 2; have qs3 := hbs.cell 3; have qs4 := hbs.cell 4; have qs5 := hbs.cell 5; simp at qs0 qs1 qs2 qs3 qs4 qs5; have zs0 := hbs.frozen 0; have zs1 := hbs.frozen 1; have zs2 := hbs.frozen 2; have zs3 := hbs.frozen 3; have zs4 := hbs.frozen 4; have zs5 := hbs.frozen 5; have Hhbs := Lib.hid hbs; clear hbs
              clear h5
              go_wp2_with (first | (refine wpList_load_blk k3v1n rfl _ _ (by rfl) (by rfl) (by (repeat (first | (with_reducible exact k3v1n) | (with_reducible refine Blk.alloc ?_ _) | (with_reducible refine Blk.drew ?_) | (with_reducible refine Blk.far ?_ (by first | (simp; done) | (simp; omega)) _) | (with_reducible refine Blk.turn ?_ (by with_reducible assumption) (by omega))))) _ Tryz.underlying25 rfl (by kernel_rfl) ?_) | (refine wpList_store_blk k1v rfl _ _ _ (by rfl) _ (by rfl) (by rfl) (by (repeat (first | (with_reducible exact k1v) | (with_reducible refine Blk.alloc ?_ _) | (with_reducible refine Blk.drew ?_) | (with_reducible refine Blk.far ?_ (by first | (simp; done) | (simp; omega)) _) | (with_reducible refine Blk.turn ?_ (by with_reducible assumption) (by omega))))) (by rfl) (by kernel_rfl) (by simp [Value.oneCell']) ?_; intro wt k1vn ht))
              refine ret_blk2 rfl k1vn rfl Tryz.underlying25 rfl (by kernel_rfl) rfl ?_
              obtain rfl : (some ⟨3, 0, 0, [], 0⟩ : Option Vl) = O := HO.out
              exact ⟨by rfl, H.out.turnF rfl (H5.out.adv HL.out) ht (Nat.le_refl _), Gr.turnFar ((Gr.of (bstep hb3 hbv)).set 1 _) ht (Nat.le_refl _)⟩
            | false =>
              go_wp2_with fail
              refine (K3.out _ G2.out).mono ?_
              rintro e v2 ⟨rfl, hc2⟩
              have d2 : Below w2.heap.size w2 v2 := bstep d1 hc2
              have k3v2 := k3v1.step hc2
              have hsv2 : w2.heap.size < v2.heap.size := k3v2.lt
              have G3 := Lib.hid (G2.out.step hc2)
              cases N with
              | true =>
                go_upto_region 17 with fail
                have h5 := G3.out
                have k1v := HK1.out.step d2
                have hbs := (h5).blk; have hls := hbs.lt; have hlls := lts hls; have qs0 := hbs.cell 0; have qs1 := hbs.cell 1; have qs2 := hbs.cell 2; have qs3 := hbs.cell 3; have qs4 := hbs.cell 4; have qs5 := hbs.cell 5; simp at qs0 qs1 qs2 qs3 qs4 qs5; have zs0 := hbs.frozen 0; have zs1 := hbs.frozen 1; have zs2 := hbs.frozen 2; have zs3 := hbs.frozen 3; have zs4 := hbs.frozen 4; have zs5 := hbs.frozen 5; have Hhbs := Lib.hid hbs; clear hbs
                clear h5
                go_wp2_with (first | (refine wpList_load_blk k3v2 rfl _ _ (by rfl) (by rfl) (by (repeat (first | (with_reducible exact k3v2) | (with_reducible refine Blk.alloc ?_ _) | (with_reducible refine Blk.drew ?_) | (with_reducible refine Blk.far ?_ (by first | (simp; done) | (simp; omega)) _) | (with_reducible refine Blk.turn ?_ (by with_reducible assumption) (by omega))))) _ Tryz.underlying25 rfl (by kernel_rfl) ?_) | (refine wpList_store_blk k1v rfl _ _ _ (by rfl) _ (by rfl) (by rfl) (by (repeat (first | (with_reducible exact k1v) | (with_reducible refine Blk.alloc ?_ _) | (with_reducible refine Blk.drew ?_) | (with_reducible refine Blk.far ?_ (by first | (simp; done) | (simp; omega)) _) | (with_reducible refine Blk.turn ?_ (by with_reducible assumption) (by omega))))) (by rfl) (by kernel_rfl) (by simp [Value.oneCell']) ?_; intro wt k1vn ht))
                refine ret_blk2 rfl k1vn rfl Tryz.underlying25 rfl (by kernel_rfl) rfl ?_
                obtain rfl : (some zeroV : Option Vl) = O := HO.out
                exact ⟨rfl, H.out.turnF rfl (G3.out.adv HL.out) ht (Nat.le_refl _), Gr.turnFar ((Gr.of (bstep hb3 d2)).set 1 _) ht (Nat.le_refl _)⟩
              | false =>
                have k1v := HK1.out.step d2
                go_wp2_with (first | (refine wpList_load_blk k3v2 rfl _ _ (by rfl) (by rfl) (by (repeat (first | (with_reducible exact k3v2) | (with_reducible refine Blk.alloc ?_ _) | (with_reducible refine Blk.drew ?_) | (with_reducible refine Blk.far ?_ (by first | (simp; done) | (simp; omega)) _) | (with_reducible refine Blk.turn ?_ (by with_reducible assumption) (by omega))))) _ Tryz.underlying25 rfl (by kernel_rfl) ?_) | (refine wpList_store_blk k1v rfl _ _ _ (by rfl) _ (by rfl) (by rfl) (by (repeat (first | (with_reducible exact k1v) | (with_reducible refine Blk.alloc ?_ _) | (with_reducible refine Blk.drew ?_) | (with_reducible refine Blk.far ?_ (by first | (simp; done) | (simp; omega)) _) | (with_reducible refine Blk.turn ?_ (by with_reducible assumption) (by omega))))) (by rfl) (by kernel_rfl) (by simp [Value.oneCell']) ?_; intro wt k1vn ht))
                refine ret_blk2 rfl k1vn rfl Tryz.underlying25 rfl (by kernel_rfl) rfl ?_
                obtain rfl : (none : Option Vl) = O := HO.out
                exact ⟨rfl, H.out.turnF rfl G3.out ht (Nat.le_refl _), Gr.turnFar (Gr.of (bstep hb3 d2)) ht (Nat.le_refl _)⟩
end Go.Proofs.YtkkeplmaphcblaaGreatDoor

namespace Go.Proofs.YtkkeplmaphcblaaGreatDoor
open Go.RowKit

theorem isS_iff {p : PS} {t : Tk} (he : p.e = 0) (ht : p.L[p.nx]? = some t) (s : Bs) : p.isS s = true ↔ (t.k = 4 ∨ t.k = 5) ∧ t.t = s := by
  rw [isS_some he ht]
  simp
theorem value_any (b : Nat) (A : Option Addr) (c : Nat) (p : PS) (w : World) (h : PB w b A c p) :
    Calls Tryz.prog 168 #[.pointer (some ⟨b, 0, none⟩)] w fun e w' => ValOut b A c p w p.val e w' := by
  by_cases he : p.e = 0
  · cases ht : p.L[p.nx]? with
    | none =>
      have hv : p.val = none := by unfold PS.val; rw [if_pos he, ht]
      rw [hv]
      refine (value_none b A c p w h (.inr (List.getElem?_eq_none_iff.1 ht))).mono ?_
      rintro e w' ⟨rfl, hb⟩
      exact ⟨rfl, h.step hb, .of hb⟩
    | some t =>
      have hv : p.val = valT t := by unfold PS.val; rw [if_pos he, ht]
      rw [hv]
      refine value_tok b A c p w h he t ht _ _ _ rfl rfl rfl _ ?_
      unfold valT
      simp only [isS_iff he ht]
  · have hv : p.val = none := by unfold PS.val; rw [if_neg he]
    rw [hv]
    refine (value_none b A c p w h (.inl he)).mono ?_
    rintro e w' ⟨rfl, hb⟩
    exact ⟨rfl, h.step hb, .of hb⟩
theorem fail_L (p : PS) (k : Int) : (p.fail k).L = p.L := by unfold PS.fail; split <;> rfl
theorem need_L (p : PS) (s : Bs) : (p.need s).L = p.L := by unfold PS.need; split <;> first | rfl | exact fail_L _ _
theorem take_no {p : PS} {s : Bs} (h : p.isS s = false) : p.take s = p := by unfold PS.take; rw [h]; rfl
theorem take_yes {p : PS} {s : Bs} (h : p.isS s = true) : p.take s = p.adv := by unfold PS.take; rw [h]; rfl
end Go.Proofs.YtkkeplmaphcblaaGreatDoor

namespace Go.Proofs.YtkkeplmaphcblaaGreatDoor
open Go.RowKit

theorem PB.md {w : World} {b : Nat} {A : Option Addr} {c : Nat} {p : PS} (h : PB w b A c p) (z : Int) : PB (w.setCell ⟨b, 5, none⟩ (.int .i64 z)) b A c { p with md := z } := by
  refine ⟨?_, h.tm.gr (b := b) ((Gr.refl _ _).set _ _) h.nb, h.nb, h.le, h.big⟩
  have := h.blk.set_ 5 (.int .i64 z)
  simpa using this
set_option maxHeartbeats 4000000 in
set_option maxRecDepth 100000 in
theorem emake_any (b : Nat) (A : Option Addr) (c : Nat) (p : PS) (o : Int) (B : Option Addr) (n cp : Nat) (w : World) (h : PB w b A c p) (h0 : 0 ≤ p.md) (h1 : p.md ≤ 200000) :
    Calls Tryz.prog 77 #[.pointer (some ⟨b, 0, none⟩), .int .i64 o, .slice B n cp] w fun e w' => e = .returned (.agg #[.int .i64 o, .int .i64 0, .int .i64 0, .int .i64 0, .string ⟨#[]⟩, .int .i64 0, .string ⟨#[]⟩, .slice B n cp]) ∧ PB w' b A c p.made ∧ Gr b w w' := by
  have hlw := h.blk.lt
  have hnx : IntKind.i64.wrap (p.md + 1) = p.md + 1 := IntWalk.i64_in _ (by omega)
  have H3 : Hid (PB ((w.setCell ⟨b, 5, none⟩ (.int .i64 (p.md + 1))).alloc (.cells #[.int .i64 0, .int .i64 0, .int .i64 0, .int .i64 0, .string ⟨#[]⟩, .int .i64 0, .string ⟨#[]⟩, .slice none 0 0] 33)) b A c { p with md := p.md + 1 }) := Lib.hid ((h.md (p.md + 1)).step (by (repeat' (first | (with_reducible exact Below.refl _ _) | (with_reducible assumption) | (with_reducible refine balloc ?_ _) | (with_reducible refine Below.drew ?_) | (with_reducible refine bset ?_ ?_ _) | (with_reducible refine bstep ?_ (by with_reducible assumption)) | (with_reducible refine bturn ?_ (by with_reducible assumption) ?_) | go_size))))
  have K3 : Hid (Blk ((w.setCell ⟨b, 5, none⟩ (.int .i64 (p.md + 1))).alloc (.cells #[.int .i64 0, .int .i64 0, .int .i64 0, .int .i64 0, .string ⟨#[]⟩, .int .i64 0, .string ⟨#[]⟩, .slice none 0 0] 33)) w.heap.size 33 #[.int .i64 0, .int .i64 0, .int .i64 0, .int .i64 0, .string ⟨#[]⟩, .int .i64 0, .string ⟨#[]⟩, .slice none 0 0]) := Lib.hid (Blk.new' _ _ _ (by simp [World.setCell]))
  have G3 : Hid (Gr b w ((w.setCell ⟨b, 5, none⟩ (.int .i64 (p.md + 1))).alloc (.cells #[.int .i64 0, .int .i64 0, .int .i64 0, .int .i64 0, .string ⟨#[]⟩, .int .i64 0, .string ⟨#[]⟩, .slice none 0 0] 33))) := Lib.hid (((Gr.refl b w).set 5 (.int .i64 (p.md + 1))).alloc _)
  have H := Lib.hid h
  by_cases hg : 4096 < p.md + 1
  · have he : p.made = ({ p with md := p.md + 1 } : PS).fail 10 := by unfold PS.made; rw [if_pos hg]
    rw [he]
    have KF := Lib.hid (fun (W : World) (h : PB W b A c { p with md := p.md + 1 }) => fail_any b A c { p with md := p.md + 1 } 10 W h)
    have hbp := (h).blk; have hlp := hbp.lt; have hllp := lts hlp; have qp0 := hbp.cell 0; have qp1 := hbp.cell 1; have qp2 := hbp.cell 2; have qp3 := hbp.cell 3; have qp4 := hbp.cell 4; have qp5 := hbp.cell 5; simp at qp0 qp1 qp2 qp3 qp4 qp5; have zp0 := hbp.frozen 0; have zp1 := hbp.frozen 1; have zp2 := hbp.frozen 2; have zp3 := hbp.frozen 3; have zp4 := hbp.frozen 4; have zp5 := hbp.frozen 5; have Hhbp := Lib.hid hbp; clear hbp
    clear h he
    go_enter Tryz.func77, Tryz.ntmps77
    go_upto_region 3 with fail
    generalize (w.setCell ⟨b, 5, none⟩ (.int .i64 (p.md + 1))).alloc (.cells #[.int .i64 0, .int .i64 0, .int .i64 0, .int .i64 0, .string ⟨#[]⟩, .int .i64 0, .string ⟨#[]⟩, .slice none 0 0] 33) = w1 at *
    go_wp2_with fail
    refine (KF.out _ H3.out).mono ?_
    rintro e w2 ⟨rfl, h4, g4⟩
    have k4 := K3.out.gr g4 (by omega)
    go_wp2_with (refine wpList_store_blk k4 rfl _ _ _ (by rfl) _ (by rfl) (by rfl) (by (repeat (first | (with_reducible exact k4) | (with_reducible refine Blk.alloc ?_ _) | (with_reducible refine Blk.drew ?_) | (with_reducible refine Blk.far ?_ (by first | (simp; done) | (simp; omega)) _) | (with_reducible refine Blk.turn ?_ (by with_reducible assumption) (by omega))))) (by rfl) (by kernel_rfl) (by simp [Value.oneCell']) ?_; intro wt k4n ht)
    refine ret_blk rfl k4n rfl Tryz.underlying33 rfl (by kernel_rfl) rfl ?_
    exact ⟨rfl, H.out.turnF (by rw [fail_L]) h4 ht (Nat.le_refl _), Gr.turnFar (G3.out.trans g4) ht (Nat.le_refl _)⟩
  · have he : p.made = { p with md := p.md + 1 } := by unfold PS.made; rw [if_neg hg]
    rw [he]
    have hbp := (h).blk; have hlp := hbp.lt; have hllp := lts hlp; have qp0 := hbp.cell 0; have qp1 := hbp.cell 1; have qp2 := hbp.cell 2; have qp3 := hbp.cell 3; have qp4 := hbp.cell 4; have qp5 := hbp.cell 5; simp at qp0 qp1 qp2 qp3 qp4 qp5; have zp0 := hbp.frozen 0; have zp1 := hbp.frozen 1; have zp2 := hbp.frozen 2; have zp3 := hbp.frozen 3; have zp4 := hbp.frozen 4; have zp5 := hbp.frozen 5; have Hhbp := Lib.hid hbp; clear hbp
    clear h he
    go_enter Tryz.func77, Tryz.ntmps77
    go_upto_region 4 with fail
    generalize (w.setCell ⟨b, 5, none⟩ (.int .i64 (p.md + 1))).alloc (.cells #[.int .i64 0, .int .i64 0, .int .i64 0, .int .i64 0, .string ⟨#[]⟩, .int .i64 0, .string ⟨#[]⟩, .slice none 0 0] 33) = w1 at *
    have k4 := K3.out
    go_wp2_with (refine wpList_store_blk k4 rfl _ _ _ (by rfl) _ (by rfl) (by rfl) (by (repeat (first | (with_reducible exact k4) | (with_reducible refine Blk.alloc ?_ _) | (with_reducible refine Blk.drew ?_) | (with_reducible refine Blk.far ?_ (by first | (simp; done) | (simp; omega)) _) | (with_reducible refine Blk.turn ?_ (by with_reducible assumption) (by omega))))) (by rfl) (by kernel_rfl) (by simp [Value.oneCell']) ?_; intro wt k4n ht)
    refine ret_blk rfl k4n rfl Tryz.underlying33 rfl (by kernel_rfl) rfl ?_
    exact ⟨rfl, H.out.turnF rfl H3.out ht (Nat.le_refl _), Gr.turnFar G3.out ht (Nat.le_refl _)⟩
/-- A level of operators in memory: its signs at gs, its numbers at go. -/
structure LV (w : World) (g n gs gi : Nat) : Prop where
  c0 : w.cell? ⟨g, n * 3, none⟩ = some (.slice (some ⟨gs, 0, none⟩) (levelS n).1.length (levelS n).1.length)
  c1 : w.cell? ⟨g, n * 3 + 1, none⟩ = some (.slice (some ⟨gi, 0, none⟩) (levelS n).1.length (levelS n).1.length)
  c2 : w.cell? ⟨g, n * 3 + 2, none⟩ = some (.bool (levelS n).2)
  ss : SS w gs ((levelS n).1.map (·.1))
  is : ∀ i q, (levelS n).1[i]? = some q → w.cell? ⟨gi, i, none⟩ = some (.int .i64 q.2)
theorem LV.keep {w w' : World} {g n gs gi : Nat} (h : LV w g n gs gi) (hk : ∀ a v, w.cell? a = some v → (a.block = g ∨ a.block = gs ∨ a.block = gi) → w'.cell? a = some v) : LV w' g n gs gi :=
  ⟨hk _ _ h.c0 (.inl rfl), hk _ _ h.c1 (.inl rfl), hk _ _ h.c2 (.inl rfl), fun i l hl => hk _ _ (h.ss i l hl) (.inr (.inl rfl)), fun i q hq => hk _ _ (h.is i q hq) (.inr (.inr rfl))⟩
theorem LV.of {w : World} {g n gs gi : Nat} {T T2 T3 : TypeId} {row : Array Value} (hr : Blk w g T row) (h0 : row[n * 3]? = some (.slice (some ⟨gs, 0, none⟩) (levelS n).1.length (levelS n).1.length)) (h1 : row[n * 3 + 1]? = some (.slice (some ⟨gi, 0, none⟩) (levelS n).1.length (levelS n).1.length)) (h2 : row[n * 3 + 2]? = some (.bool (levelS n).2))
    (hs : Blk w gs T2 ((levelS n).1.map fun q => Value.string (bs q.1)).toArray) (hi : Blk w gi T3 ((levelS n).1.map fun q => Value.int .i64 q.2).toArray) : LV w g n gs gi := by
  refine ⟨(hr.cell _).trans h0, (hr.cell _).trans h1, (hr.cell _).trans h2, SS.of_blk (T := T2) (by rw [List.map_map]; exact hs), fun i q hq => ?_⟩
  rw [hi.cell, List.getElem?_toArray, List.getElem?_map, hq]
  rfl
/-- What is told of a function that answers levels, and where they lie. -/
def LVS (w w' : World) (g : Nat) : Prop := w.heap.size ≤ g ∧ ∀ n, n ≤ 4 → ∃ gs gi, w.heap.size ≤ gs ∧ w.heap.size ≤ gi ∧ LV w' g n gs gi
set_option maxHeartbeats 4000000 in
set_option maxRecDepth 100000 in
theorem levels_any (w : World) : Calls Tryz.prog 107 #[] w fun e w' => (∃ g, e = .returned (.slice (some ⟨g, 0, none⟩) 5 5) ∧ LVS w w' g) ∧ Below w.heap.size w w' := by
  go_enter Tryz.func107, Tryz.ntmps107
  go_wp2_with fail
  go_returns
  have hb0 : Below w.heap.size w w := Below.refl _ _
  refine ⟨⟨_, rfl, by omega, fun n hn => ?_⟩, by (repeat' (first | (with_reducible exact Below.refl _ _) | (with_reducible assumption) | (with_reducible refine balloc ?_ _) | (with_reducible refine Below.drew ?_) | (with_reducible refine bset ?_ ?_ _) | (with_reducible refine bstep ?_ (by with_reducible assumption)) | (with_reducible refine bturn ?_ (by with_reducible assumption) ?_) | go_size))⟩
  match n, hn with
  | 0, _ =>
    refine ⟨_, _, ?_, ?_, LV.of (T2 := 9) (T3 := 3) (Blk.new' _ _ _ (by simp)) rfl rfl rfl ?_ ?_⟩
    case refine_3 =>
      iterate 10 refine Blk.alloc ?_ _
      exact Blk.new' _ _ _ (by simp)
    case refine_4 =>
      iterate 9 refine Blk.alloc ?_ _
      exact Blk.new' _ _ _ (by simp)
    all_goals omega
  | 1, _ =>
    refine ⟨_, _, ?_, ?_, LV.of (T2 := 9) (T3 := 3) (Blk.new' _ _ _ (by simp)) rfl rfl rfl ?_ ?_⟩
    case refine_3 =>
      iterate 8 refine Blk.alloc ?_ _
      exact Blk.new' _ _ _ (by simp)
    case refine_4 =>
      iterate 7 refine Blk.alloc ?_ _
      exact Blk.new' _ _ _ (by simp)
    all_goals omega
  | 2, _ =>
    refine ⟨_, _, ?_, ?_, LV.of (T2 := 9) (T3 := 3) (Blk.new' _ _ _ (by simp)) rfl rfl rfl ?_ ?_⟩
    case refine_3 =>
      iterate 6 refine Blk.alloc ?_ _
      exact Blk.new' _ _ _ (by simp)
    case refine_4 =>
      iterate 5 refine Blk.alloc ?_ _
      exact Blk.new' _ _ _ (by simp)
    all_goals omega
  | 3, _ =>
    refine ⟨_, _, ?_, ?_, LV.of (T2 := 9) (T3 := 3) (Blk.new' _ _ _ (by simp)) rfl rfl rfl ?_ ?_⟩
    case refine_3 =>
      iterate 4 refine Blk.alloc ?_ _
      exact Blk.new' _ _ _ (by simp)
    case refine_4 =>
      iterate 3 refine Blk.alloc ?_ _
      exact Blk.new' _ _ _ (by simp)
    all_goals omega
  | 4, _ =>
    refine ⟨_, _, ?_, ?_, LV.of (T2 := 9) (T3 := 3) (Blk.new' _ _ _ (by simp)) rfl rfl rfl ?_ ?_⟩
    case refine_3 =>
      iterate 2 refine Blk.alloc ?_ _
      exact Blk.new' _ _ _ (by simp)
    case refine_4 =>
      iterate 1 refine Blk.alloc ?_ _
      exact Blk.new' _ _ _ (by simp)
    all_goals omega
/-- Where the first sign stands that is next. -/
def fndR (p : PS) (L : List Bs) (r : Int) : Prop := (r < 0 ∧ ∀ (j : Nat) s, L[j]? = some s → p.isS s = false) ∨ ∃ (k : Nat) (s : Bs), r = (k : Int) ∧ L[k]? = some s ∧ p.isS s = true ∧ ∀ (j : Nat) s, j < k → L[j]? = some s → p.isS s = false
set_option maxHeartbeats 8000000 in
set_option maxRecDepth 100000 in
theorem find_walk (b : Nat) (A : Option Addr) (c : Nat) (p : PS) (g : Nat) (L : List Bs) (hL : L.length ≤ 1000) (w : World) (h : PB w b A c p) (hS : SS w g L) :
    Calls Tryz.prog 119 #[.slice (some ⟨g, 0, none⟩) L.length L.length, .func (.func 102) #[.pointer (some ⟨b, 0, none⟩)] #[]] w fun e w' => (∃ r : Int, e = .returned (.int .i64 r) ∧ fndR p L r) ∧ Below w.heap.size w w' := by
  have KI := Lib.hid (fun (l : Bs) (W : World) (hb : Below w.heap.size w W) => is_any b A c p l W (h.step hb))
  have HS := Lib.hid hS
  clear h hS
  go_enter Tryz.func119, Tryz.ntmps119
  go_wp2_with fail
  go_loopw [8] (fun i wr => ∃ k : Nat, k ≤ L.length ∧ i = .int .i64 (k : Int) ∧ Below w.heap.size w wr ∧ Hid (∀ (j : Nat) (s : Bs), j < k → L[j]? = some s → p.isS s = false)) (fun i _ => L.length - (intOf i).toNat)
  case atStart => exact ⟨0, by omega, rfl, Below.refl _ _, Lib.hid (fun j t h => absurd h (by omega))⟩
  case round =>
    obtain ⟨k, hk, rfl, hb, HQ⟩ := hrel
    by_cases hlt : k < L.length
    · obtain ⟨t, ht⟩ : ∃ t, L[k]? = some t := ⟨L[k], List.getElem?_eq_getElem hlt⟩
      have hki : (k : Int) < (L.length : Int) := by omega
      have hkn : IntKind.i64.wrap ((k : Int) + 1) = ((k + 1 : Nat) : Int) := by rw [IntWalk.i64_in _ (by omega)]; omega
      have c0 := keep1 hb (HS.out k t ht)
      have KP1 := Lib.hid (KI.out t)
      obtain ⟨r, hr⟩ : ∃ r, p.isS t = r := ⟨_, rfl⟩
      rw [hr] at KP1
      have HY : Hid (r = true → fndR p L (k : Int)) := Lib.hid (fun h => .inr ⟨k, t, rfl, ht, hr.trans h, HQ.out⟩)
      have HN : Hid (r = false → ∀ (j : Nat) (t : Bs), j < k + 1 → L[j]? = some t → p.isS t = false) := Lib.hid (fun h j u hj hu => by
        by_cases he : j = k
        · subst he
          rw [ht] at hu
          injection hu with hu
          rw [← hu, hr, h]
        · exact HQ.out j u (by omega) hu)
      obtain ⟨q, hq⟩ : ∃ q, bs t = q := ⟨_, rfl⟩
      rw [hq] at c0 KP1
      clear hr ht HQ hq
      go_wp2_with fail
      refine (KP1.out _ hb).mono ?_
      rintro e w2 ⟨rfl, hb2⟩
      clear c0
      cases r with
      | true =>
        go_wp2_with fail
        go_returns
        exact ⟨⟨k, rfl, HY.out (by simp)⟩, by (repeat' (first | (with_reducible exact Below.refl _ _) | (with_reducible assumption) | (with_reducible refine balloc ?_ _) | (with_reducible refine Below.drew ?_) | (with_reducible refine bset ?_ ?_ _) | (with_reducible refine bstep ?_ (by with_reducible assumption)) | (with_reducible refine bturn ?_ (by with_reducible assumption) ?_) | go_size))⟩
      | false =>
        go_wp2_with fail
        go_roundw
        case rel => exact ⟨k + 1, by omega, by go_num, by (repeat' (first | (with_reducible exact Below.refl _ _) | (with_reducible assumption) | (with_reducible refine balloc ?_ _) | (with_reducible refine Below.drew ?_) | (with_reducible refine bset ?_ ?_ _) | (with_reducible refine bstep ?_ (by with_reducible assumption)) | (with_reducible refine bturn ?_ (by with_reducible assumption) ?_) | go_size)), Lib.hid (HN.out (by simp))⟩
        case measure => simp [intOf]; omega
    · obtain rfl : k = L.length := by omega
      have HN : Hid (fndR p L (-1)) := Lib.hid (.inl ⟨by decide, fun j s hj => HQ.out j s (List.getElem?_eq_some_iff.1 hj).1 hj⟩)
      clear hlt HQ
      go_wp2_with fail
      go_returns
      exact ⟨⟨-1, rfl, HN.out⟩, hb⟩
/-- What is found says which operator is next. -/
theorem find_oper {p : PS} {n : Nat} {r : Int} (h : fndR p ((levelS n).1.map (·.1)) r) : (r < 0 ∧ p.oper n = none) ∨ ∃ (k : Nat) (q : Bs × Int), r = (k : Int) ∧ (levelS n).1[k]? = some q ∧ p.isS q.1 = true ∧ p.oper n = some q.2 := by
  unfold PS.oper
  generalize (levelS n).1 = L at *
  rcases h with ⟨h1, h2⟩ | ⟨k, s, h1, h2, h3, h4⟩
  · refine .inl ⟨h1, ?_⟩
    rw [List.find?_eq_none.2 fun q hq => ?_]
    · rfl
    · obtain ⟨j, hj⟩ := List.mem_iff_getElem?.1 hq
      rw [h2 j q.1 (by rw [List.getElem?_map, hj]; rfl)]
      decide
  · rw [List.getElem?_map] at h2
    cases hq : L[k]? with
    | none => rw [hq] at h2; cases h2
    | some q =>
      rw [hq] at h2
      injection h2 with h2
      simp only at h2
      subst h2
      refine .inr ⟨k, q, h1, hq, h3, ?_⟩
      have : L.find? (fun g => p.isS g.1) = some q := by
        rw [List.find?_eq_some_iff_getElem]
        obtain ⟨hk, he⟩ := List.getElem?_eq_some_iff.1 hq
        refine ⟨h3, k, hk, he, fun j hj => ?_⟩
        rw [h4 j L[j].1 hj (by rw [List.getElem?_map, List.getElem?_eq_getElem (by omega)]; rfl)]
        rfl
      rw [this]
      rfl
end Go.Proofs.YtkkeplmaphcblaaGreatDoor

namespace Go.Proofs.YtkkeplmaphcblaaGreatDoor
open Go.RowKit

theorem XM.cells {S : Nat → Prop} {w : World} {x : Ex} {cs : Array Value} (h : XM S w x cs) : ∃ (o k n s : Int) (q : ByteArray) (m : Int) (r : ByteArray) (B : Option Addr) (l c : Nat), cs = #[.int .i64 o, .int .i64 k, .int .i64 n, .int .i64 s, .string q, .int .i64 m, .string r, .slice B l c] := by
  obtain ⟨A, c, rfl⟩ := h.get
  exact ⟨_, _, _, _, _, _, _, _, _, _, rfl⟩
theorem put_none (a : Act) : a.put none undef = a := rfl
/-- A kid's blocks lie below the world's size. -/
theorem XM.top {S : Nat → Prop} {w : World} {x : Ex} {cs : Array Value} (h : XM S w x cs) {n : Nat} (hn : w.heap.size ≤ n) : XM (fun g => S g ∧ g < n) w x cs := h.mono fun _ hs hg => ⟨hs, Nat.lt_of_lt_of_le hg hn⟩
theorem PB.drewN {w : World} {b : Nat} {A : Option Addr} {c : Nat} {p : PS} (h : PB w b A c p) (n : Nat) : PB (w.drewN n) b A c p := ⟨h.blk.drewN n, h.tm, h.nb, h.le, h.big⟩
theorem XM.drew {S : Nat → Prop} {w : World} {x : Ex} {cs : Array Value} (h : XM S w x cs) : XM S w.drew x cs := h.keep fun _ _ _ => rfl
theorem XM.drewN {S : Nat → Prop} {w : World} {x : Ex} {cs : Array Value} (h : XM S w x cs) (n : Nat) : XM S (w.drewN n) x cs := h.keep fun _ _ _ => rfl
theorem set8 {w : World} {g : Nat} {T : TypeId} {a0 a1 a2 a3 a4 a5 a6 a7 : Value} (h : Blk w g T #[a0, a1, a2, a3, a4, a5, a6, a7]) (b0 b1 b2 b3 b4 b5 b6 b7 : Value) : Blk ((((((((w.setCell ⟨g, 0, none⟩ b0).setCell ⟨g, 1, none⟩ b1).setCell ⟨g, 2, none⟩ b2).setCell ⟨g, 3, none⟩ b3).setCell ⟨g, 4, none⟩ b4).setCell ⟨g, 5, none⟩ b5).setCell ⟨g, 6, none⟩ b6).setCell ⟨g, 7, none⟩ b7) g T #[b0, b1, b2, b3, b4, b5, b6, b7] ∧ Turned w ((((((((w.setCell ⟨g, 0, none⟩ b0).setCell ⟨g, 1, none⟩ b1).setCell ⟨g, 2, none⟩ b2).setCell ⟨g, 3, none⟩ b3).setCell ⟨g, 4, none⟩ b4).setCell ⟨g, 5, none⟩ b5).setCell ⟨g, 6, none⟩ b6).setCell ⟨g, 7, none⟩ b7) g := by
  refine ⟨?_, ?_⟩
  · have := (((((((h.set_ 0 b0).set_ 1 b1).set_ 2 b2).set_ 3 b3).set_ 4 b4).set_ 5 b5).set_ 6 b6).set_ 7 b7
    simpa using this
  · exact (((((((Turned.setCell _ _ _ _).trans (Turned.setCell _ _ _ _)).trans (Turned.setCell _ _ _ _)).trans (Turned.setCell _ _ _ _)).trans (Turned.setCell _ _ _ _)).trans (Turned.setCell _ _ _ _)).trans (Turned.setCell _ _ _ _)).trans (Turned.setCell _ _ _ _)
/-- How a call that reads an expression ends. -/
def EOut (b : Nat) (A : Option Addr) (c : Nat) (w w' : World) (r : Ex × PS) (e : Ending) : Prop :=
  (∃ cs, e = .returned (.agg cs) ∧ XM (fun g => w.heap.size ≤ g) w' r.1 cs) ∧ PB w' b A c r.2 ∧ Gr b w w'
def ExprC (f : Nat) : Prop := ∀ (b : Nat) (A : Option Addr) (c : Nat) (p : PS) (d k : Nat) (w : World), PB w b A c p → Rm 0 k p → 8 * k + 8 ≤ f → d + k ≤ 200000 →
  Calls Tryz.prog 42 #[.pointer (some ⟨b, 0, none⟩), .int .i64 (d : Int)] w fun e w' => EOut b A c w w' (exprF wordB f p d) e
def ChainC (f : Nat) : Prop := ∀ (b : Nat) (A : Option Addr) (c : Nat) (p : PS) (d n k : Nat) (w : World), PB w b A c p → Rm 0 k p → n ≤ 5 → 8 * k + 7 ≤ f + n → d + k ≤ 200000 →
  Calls Tryz.prog 76 #[.pointer (some ⟨b, 0, none⟩), .int .i64 (d : Int), .int .i64 (n : Int)] w fun e w' => EOut b A c w w' (chainF wordB f p d n) e
def PrefC (f : Nat) : Prop := ∀ (b : Nat) (A : Option Addr) (c : Nat) (p : PS) (d k : Nat) (w : World), PB w b A c p → Rm 0 k p → 8 * k + 1 ≤ f → d + k ≤ 200000 →
  Calls Tryz.prog 118 #[.pointer (some ⟨b, 0, none⟩), .int .i64 (d : Int)] w fun e w' => EOut b A c w w' (prefixF wordB f p d) e
end Go.Proofs.YtkkeplmaphcblaaGreatDoor

namespace Go.Proofs.YtkkeplmaphcblaaGreatDoor
open Go.RowKit

theorem expr_else {f : Nat} {p : PS} {d : Nat} (h : ¬ ((p.deep d).e = 0 ∧ (p.deep d).isS bIf = true)) : exprF wordB (f + 1) p d = chainF wordB f (p.deep d) d 0 := by
  rw [exprF, if_neg h]
theorem deep_lo {p : PS} {d : Nat} (h : ¬ 64 < d) : p.deep d = p := by unfold PS.deep; rw [if_neg h]
theorem deep_hi {p : PS} {d : Nat} (h : 64 < d) : p.deep d = p.fail 9 ∧ ¬ (p.fail 9).e = 0 := by
  unfold PS.deep
  rw [if_pos h]
  exact ⟨rfl, fail_e (by decide)⟩
set_option maxHeartbeats 4000000 in
set_option maxRecDepth 100000 in
/-- Behind the call of chain. -/
theorem expr_1 (b : Nat) (A : Option Addr) (c : Nat) (p q : PS) (r : Ex × PS) (d : Nat) (w : World) (h : PB w b A c p) (hw : (64 < d ∧ p.fail 9 = q) ∨ (¬ 64 < d ∧ ¬ p.e = 0 ∧ p = q) ∨ (¬ 64 < d ∧ p.e = 0 ∧ p.isS bIf = false ∧ p = q)) (hr : r.2.L = p.L)
    (KC : Hid (∀ W, PB W b A c q → Calls Tryz.prog 76 #[.pointer (some ⟨b, 0, none⟩), .int .i64 (d : Int), .int .i64 0] W fun e w' => EOut b A c W w' r e)) :
    Calls Tryz.prog 42 #[.pointer (some ⟨b, 0, none⟩), .int .i64 (d : Int)] w fun e w' => EOut b A c w w' r e := by
  have hlw := h.blk.lt
  have k0 : Blk (w.alloc (.cells #[.int .i64 0, .int .i64 0, .int .i64 0, .int .i64 0, .string ⟨#[]⟩, .int .i64 0, .string ⟨#[]⟩, .slice none 0 0] 33)) w.heap.size 33 #[.int .i64 0, .int .i64 0, .int .i64 0, .int .i64 0, .string ⟨#[]⟩, .int .i64 0, .string ⟨#[]⟩, .slice none 0 0] := Blk.new _ _ _
  have hA : Below w.heap.size w (w.alloc (.cells #[.int .i64 0, .int .i64 0, .int .i64 0, .int .i64 0, .string ⟨#[]⟩, .int .i64 0, .string ⟨#[]⟩, .slice none 0 0] 33)) := by (repeat' (first | (with_reducible exact Below.refl _ _) | (with_reducible assumption) | (with_reducible refine balloc ?_ _) | (with_reducible refine Below.drew ?_) | (with_reducible refine bset ?_ ?_ _) | (with_reducible refine bstep ?_ (by with_reducible assumption)) | (with_reducible refine bturn ?_ (by with_reducible assumption) ?_) | go_size))
  have H1 := Lib.hid (h.step hA)
  have K0 := Lib.hid k0
  have G1 := Lib.hid (Gr.of hA : Gr b w _)
  have hs1 : (w.alloc (.cells #[.int .i64 0, .int .i64 0, .int .i64 0, .int .i64 0, .string ⟨#[]⟩, .int .i64 0, .string ⟨#[]⟩, .slice none 0 0] 33)).heap.size = w.heap.size + 1 := by simp
  have HS1 := Lib.hid hs1
  have H := Lib.hid h
  have HR := Lib.hid hr
  have tail : Hid (∀ (w1 w2 : World) (cs : Array Value), w.heap.size + 1 ≤ w1.heap.size → XM (fun g => w1.heap.size ≤ g) w2 r.1 cs → XM (fun g => w.heap.size + 1 ≤ g) w2 r.1 cs) := Lib.hid fun w1 w2 cs h1 hx => hx.mono fun g hg _ => by omega
  rcases hw with ⟨hd, rfl⟩ | ⟨hd, he, rfl⟩ | ⟨hd, he, hi, rfl⟩
  · have hdi : (64 : Int) < (d : Int) := by omega
    have KF := Lib.hid (fun (W : World) (h : PB W b A c p) => fail_any b A c p 9 W h)
    have hne : ((p.fail 9).e != 0) = true := by simpa using (deep_hi (p := p) hd).2
    have HNE := Lib.hid hne
    clear h k0 hA hs1 hr hne hd
    go_enter Tryz.func42, Tryz.ntmps42
    go_upto_region 2 with fail
    generalize (w.alloc (.cells #[.int .i64 0, .int .i64 0, .int .i64 0, .int .i64 0, .string ⟨#[]⟩, .int .i64 0, .string ⟨#[]⟩, .slice none 0 0] 33)) = w1 at *
    go_wp2_with fail
    refine (KF.out _ H1.out).mono ?_
    rintro e w2 ⟨rfl, h2, g2⟩
    have k2 := K0.out.gr g2 (by omega)
    have hz2 := g2.size
    have hz1 := HS1.out
    have hne := HNE.out
    obtain ⟨q, hq⟩ : ∃ q, p.fail 9 = q := ⟨_, rfl⟩
    rw [hq] at hne h2 KC
    have H2 := Lib.hid h2
    have K2 := Lib.hid k2
    clear k2 hq HNE KF
    have hbp := (h2).blk; have hlp := hbp.lt; have hllp := lts hlp; have qp0 := hbp.cell 0; have qp1 := hbp.cell 1; have qp2 := hbp.cell 2; have qp3 := hbp.cell 3; have qp4 := hbp.cell 4; have qp5 := hbp.cell 5; simp at qp0 qp1 qp2 qp3 qp4 qp5; have zp0 := hbp.frozen 0; have zp1 := hbp.frozen 1; have zp2 := hbp.frozen 2; have zp3 := hbp.frozen 3; have zp4 := hbp.frozen 4; have zp5 := hbp.frozen 5; have Hhbp := Lib.hid hbp; clear hbp
    clear h2
    go_wp2_with fail
    refine (KC.out _ H2.out).mono ?_
    rintro e w3 ⟨⟨cs, rfl, hx⟩, h3, g3⟩
    have hx2 := tail.out _ _ _ (by omega) hx
    have k3 := K2.out.gr g3 (by omega)
    obtain ⟨o, k, n, s, q2, m, r2, B, l, cc, rfl⟩ := hx.cells
    clear qp0 zp0 qp1 zp1 qp2 zp2 qp3 zp3 qp4 zp4 qp5 zp5 hlp hllp Hhbp
    go_wp2_with (refine wpList_store_blk k3 rfl _ _ _ (by rfl) _ (by rfl) (by rfl) (by (repeat (first | (with_reducible exact k3) | (with_reducible refine Blk.alloc ?_ _) | (with_reducible refine Blk.drew ?_) | (with_reducible refine Blk.far ?_ (by first | (simp; done) | (simp; omega)) _) | (with_reducible refine Blk.turn ?_ (by with_reducible assumption) (by omega))))) (by rfl) (by kernel_rfl) (by simp [Value.oneCell']) ?_; intro wt k3n ht)
    refine ret_blk rfl k3n rfl Tryz.underlying33 rfl (by kernel_rfl) rfl ?_
    exact ⟨⟨_, rfl, (hx2.turn ht fun g hg => by omega).mono fun g hg _ => by omega⟩, H.out.turnF HR.out.symm h3 ht (Nat.le_refl _), Gr.turnFar ((G1.out.trans g2).trans g3) ht (Nat.le_refl _)⟩
  · have hdi : ¬ (64 : Int) < (d : Int) := by omega
    have hne : (p.e != 0) = true := by simpa using he
    have h1 := H1.out
    clear h k0 hA hs1 hr hd he
    go_enter Tryz.func42, Tryz.ntmps42
    go_upto_region 3 with fail
    generalize (w.alloc (.cells #[.int .i64 0, .int .i64 0, .int .i64 0, .int .i64 0, .string ⟨#[]⟩, .int .i64 0, .string ⟨#[]⟩, .slice none 0 0] 33)) = w1 at *
    have hz1 := HS1.out
    have hbp := (h1).blk; have hlp := hbp.lt; have hllp := lts hlp; have qp0 := hbp.cell 0; have qp1 := hbp.cell 1; have qp2 := hbp.cell 2; have qp3 := hbp.cell 3; have qp4 := hbp.cell 4; have qp5 := hbp.cell 5; simp at qp0 qp1 qp2 qp3 qp4 qp5; have zp0 := hbp.frozen 0; have zp1 := hbp.frozen 1; have zp2 := hbp.frozen 2; have zp3 := hbp.frozen 3; have zp4 := hbp.frozen 4; have zp5 := hbp.frozen 5; have Hhbp := Lib.hid hbp; clear hbp
    clear h1
    go_wp2_with fail
    refine (KC.out _ H1.out).mono ?_
    rintro e w3 ⟨⟨cs, rfl, hx⟩, h3, g3⟩
    have hx2 := tail.out _ _ _ (by omega) hx
    have k3 := K0.out.gr g3 (by omega)
    obtain ⟨o, k, n, s, q2, m, r2, B, l, cc, rfl⟩ := hx.cells
    clear qp0 zp0 qp1 zp1 qp2 zp2 qp3 zp3 qp4 zp4 qp5 zp5 hlp hllp Hhbp
    go_wp2_with (refine wpList_store_blk k3 rfl _ _ _ (by rfl) _ (by rfl) (by rfl) (by (repeat (first | (with_reducible exact k3) | (with_reducible refine Blk.alloc ?_ _) | (with_reducible refine Blk.drew ?_) | (with_reducible refine Blk.far ?_ (by first | (simp; done) | (simp; omega)) _) | (with_reducible refine Blk.turn ?_ (by with_reducible assumption) (by omega))))) (by rfl) (by kernel_rfl) (by simp [Value.oneCell']) ?_; intro wt k3n ht)
    refine ret_blk rfl k3n rfl Tryz.underlying33 rfl (by kernel_rfl) rfl ?_
    exact ⟨⟨_, rfl, (hx2.turn ht fun g hg => by omega).mono fun g hg _ => by omega⟩, H.out.turnF HR.out.symm h3 ht (Nat.le_refl _), Gr.turnFar (G1.out.trans g3) ht (Nat.le_refl _)⟩
  · have hdi : ¬ (64 : Int) < (d : Int) := by omega
    have KT := Lib.hid (fun (W : World) (h : PB W b A c p) => take_any b A c p bIf W h)
    rw [hi, take_no hi] at KT
    have h1 := H1.out
    have HE := Lib.hid he
    clear h k0 hA hs1 hr hd hi he
    go_enter Tryz.func42, Tryz.ntmps42
    go_upto_region 3 with fail
    generalize (w.alloc (.cells #[.int .i64 0, .int .i64 0, .int .i64 0, .int .i64 0, .string ⟨#[]⟩, .int .i64 0, .string ⟨#[]⟩, .slice none 0 0] 33)) = w1 at *
    have hz1 := HS1.out
    have hbp := (h1).blk; have hlp := hbp.lt; have hllp := lts hlp; have qp0 := hbp.cell 0; have qp1 := hbp.cell 1; have qp2 := hbp.cell 2; have qp3 := hbp.cell 3; have qp4 := hbp.cell 4; have qp5 := hbp.cell 5; simp at qp0 qp1 qp2 qp3 qp4 qp5; have zp0 := hbp.frozen 0; have zp1 := hbp.frozen 1; have zp2 := hbp.frozen 2; have zp3 := hbp.frozen 3; have zp4 := hbp.frozen 4; have zp5 := hbp.frozen 5; have Hhbp := Lib.hid hbp; clear hbp
    rw [HE.out] at qp4
    clear h1
    go_wp2_with fail
    refine (KT.out _ H1.out).mono ?_
    rintro e w2 ⟨rfl, h2, g2⟩
    have k2 := K0.out.gr g2 (by omega)
    have hz2 := g2.size
    have K2 := Lib.hid k2
    clear k2
    clear qp0 zp0 qp1 zp1 qp2 zp2 qp3 zp3 qp4 zp4 qp5 zp5 hlp hllp Hhbp
    go_wp2_with fail
    refine (KC.out _ h2).mono ?_
    rintro e w3 ⟨⟨cs, rfl, hx⟩, h3, g3⟩
    have hx2 := tail.out _ _ _ (by omega) hx
    have k3 := K2.out.gr g3 (by omega)
    obtain ⟨o, k, n, s, q2, m, r2, B, l, cc, rfl⟩ := hx.cells
    go_wp2_with (refine wpList_store_blk k3 rfl _ _ _ (by rfl) _ (by rfl) (by rfl) (by (repeat (first | (with_reducible exact k3) | (with_reducible refine Blk.alloc ?_ _) | (with_reducible refine Blk.drew ?_) | (with_reducible refine Blk.far ?_ (by first | (simp; done) | (simp; omega)) _) | (with_reducible refine Blk.turn ?_ (by with_reducible assumption) (by omega))))) (by rfl) (by kernel_rfl) (by simp [Value.oneCell']) ?_; intro wt k3n ht)
    refine ret_blk rfl k3n rfl Tryz.underlying33 rfl (by kernel_rfl) rfl ?_
    exact ⟨⟨_, rfl, (hx2.turn ht fun g hg => by omega).mono fun g hg _ => by omega⟩, H.out.turnF HR.out.symm h3 ht (Nat.le_refl _), Gr.turnFar ((G1.out.trans g2).trans g3) ht (Nat.le_refl _)⟩
end Go.Proofs.YtkkeplmaphcblaaGreatDoor

namespace Go.Proofs.YtkkeplmaphcblaaGreatDoor
open Go.RowKit

/-- The kids of an expression in w0. -/
structure KD (w0 : World) (A : Option Addr) (L : List Ex) : Prop where
  n : (L.length : Int) ≤ 9223372036854775807
  get : ∀ (k : Nat) (y : Ex), L[k]? = some y → ∃ (g b : Nat) (o ek en s : Int) (q : ByteArray) (m : Int) (r : ByteArray) (B : Option Addr) (l c : Nat), A = some ⟨g, b, none⟩ ∧ XM (fun _ => True) w0 y #[.int .i64 o, .int .i64 ek, .int .i64 en, .int .i64 s, .string q, .int .i64 m, .string r, .slice B l c] ∧
    w0.cell? ⟨g, b + k * 8, none⟩ = some (.int .i64 o) ∧ w0.cell? ⟨g, b + k * 8 + 1, none⟩ = some (.int .i64 ek) ∧ w0.cell? ⟨g, b + k * 8 + 2, none⟩ = some (.int .i64 en) ∧ w0.cell? ⟨g, b + k * 8 + 3, none⟩ = some (.int .i64 s) ∧
    w0.cell? ⟨g, b + k * 8 + 4, none⟩ = some (.string q) ∧ w0.cell? ⟨g, b + k * 8 + 5, none⟩ = some (.int .i64 m) ∧ w0.cell? ⟨g, b + k * 8 + 6, none⟩ = some (.string r) ∧ w0.cell? ⟨g, b + k * 8 + 7, none⟩ = some (.slice B l c)
theorem XM.kd {w0 : World} {x : Ex} {cs : Array Value} (h : XM (fun _ => True) w0 x cs) : ∃ (A : Option Addr) (c : Nat), cs = #[.int .i64 x.op, .int .i64 x.v.k, .int .i64 x.v.n, .int .i64 x.v.s, .string (bs x.v.t), .int .i64 x.v.m, .string (bs x.nm), .slice A x.kids.length c] ∧ KD w0 A x.kids := by
  obtain ⟨A, c, f, rfl, hn, hk, hc⟩ := h.inv
  refine ⟨A, c, rfl, by unfold maxLen at hn; omega, fun k y hy => ?_⟩
  have hxm := hk k y hy
  obtain ⟨g, b, e, _, hj⟩ := hc k y hy
  obtain ⟨B, c', hcs⟩ := hxm.get
  rw [hcs] at hxm hj
  exact ⟨g, b, _, _, _, _, _, _, _, _, _, _, e, hxm, hj 0 _ rfl, hj 1 _ rfl, hj 2 _ rfl, hj 3 _ rfl, hj 4 _ rfl, hj 5 _ rfl, hj 6 _ rfl, hj 7 _ rfl⟩
end Go.Proofs.YtkkeplmaphcblaaGreatDoor

namespace Go.Proofs.YtkkeplmaphcblaaGreatDoor
open Go.ChangeShapes Go.WideShapes Go.ChangeAt Go.RowKit Go.Deep Go.Shelf

theorem cells_val : Tryz.prog.cellsOf 25 = 5 := by kernel_rfl
section
variable {H : Type} {enc : TypeId × Value → H} {w : World} {base : Nat} {spare : Nat → Bool} {held : Bool}
set_option maxRecDepth 100000 in
theorem val_shape {fuel : Nat} {cs : List Value} {x : DataW H × List MemPlace} (h : DataW.trod enc Tryz.prog w base spare held fuel 25 cs = some x) : ∃ v : Vl, cs = (cellsV v).toList ∧ I64 v.k ∧ VOk v ∧ v.t.length ≤ maxLen := by
  obtain ⟨xs, n, _, _, hl, hxl, hf⟩ := DataW.trod_struct Tryz.underlying25 h
  rw [cells_val] at hl
  match cs, hl with
  | [c0, c1, c2, c3, c4], _ =>
    match xs, hxl with
    | [y0, y1, y2, y3], _ =>
      have h0 := hf 0 _ rfl
      have h1 := hf 1 _ rfl
      have h2 := hf 2 _ rfl
      have h3 := hf 3 _ rfl
      simp only [List.getElem?_cons_zero, List.getElem?_cons_succ] at h0 h1 h2 h3
      obtain ⟨k, e0, _, wk⟩ := DataW.trod_int Tryz.underlying3 h0
      obtain ⟨t, e2, _, wt⟩ := DataW.trod_string Tryz.underlying9 h2
      obtain ⟨m, e3, _, wm⟩ := DataW.trod_int Tryz.underlying3 h3
      obtain ⟨zs, n', _, _, _, hzl, hg⟩ := DataW.trod_struct Tryz.underlying23 h1
      match zs, hzl with
      | [z0, z1], _ =>
        have g0 := hg 0 _ rfl
        have g1 := hg 1 _ rfl
        simp only [List.getElem?_cons_zero, List.getElem?_cons_succ] at g0 g1
        obtain ⟨a, e4, _, wa⟩ := DataW.trod_int Tryz.underlying3 g0
        obtain ⟨b, e5, _, wb⟩ := DataW.trod_int Tryz.underlying3 g1
        cases e0; cases e2; cases e3; cases e4; cases e5
        exact ⟨⟨k, a, b, t.data.toList, m⟩, rfl, lit_i64 wk, ⟨lit_i64 wa, lit_i64 wb, lit_i64 wm⟩, by simpa using wt⟩
end

end Go.Proofs.YtkkeplmaphcblaaGreatDoor
