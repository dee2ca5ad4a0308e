/- What taking a text apart leans on, at this program: numbers, days, signs. What every law of package lex calls: awake. The walk of soffitlaw07.same at tokens that are the same. The walk of LexParts. The law LexParts at every two texts. -/
import Derived.Deep.DeepCutAuto
import Derived.Test.YtapilekangmcoaaGreatDoorN6
import Derived.Test.YtapilekangmcoaaGreatDoorN15
import Derived.Test.YtapilekangmcoaaGreatDoorN13
import Derived.Test.YtapilekangmcoaaGreatDoorN18
set_option linter.unusedVariables false
set_option linter.unusedSimpArgs false
set_option maxHeartbeats 8000000
set_option maxRecDepth 100000
namespace Go.Proofs.YtapilekangmcoaaGreatDoor
open Go.RowKit
def s150 : Bs := [49, 46, 53, 48]
def s15 : Bs := [49, 46, 53]
def sDay : Bs := [50, 48, 48, 48, 45, 48, 49, 45, 48, 49]
noncomputable def lxP (m : Int) (l : Bs) : Res := if l = s150 then ⟨15, 1, 0⟩ else if l = s15 then ⟨15, 1, 0⟩ else if h : (bs l).size < 4294967281 then Classical.choose (reads (bs l) m h) else ⟨0, 0, 5⟩
noncomputable def lxD (m : Int) (l : Bs) : Int × Int := if l = sDay then (730119, 0) else if h : (bs l).size < 4294967281 then (Classical.choose (Days.parses (bs l) m h), Classical.choose (Classical.choose_spec (Days.parses (bs l) m h))) else (0, 5)
noncomputable def lxX (m : Int) : Lx := ⟨lxP m, lxD m, fun l => goodS (bs l)⟩
theorem bs_of {s : ByteArray} {l : Bs} (h : s.data.toList = l) : s = bs l := by
 apply ByteArray.ext
 apply Array.toList_inj.1
 rw [h]
 rfl
theorem parse150 (m : Int) (w : World) (hm : w.cell? ⟨5, 0, none⟩ = some (.int .i64 m)) :
   Calls Tryz.prog 153 #[.string (bs s150)] w fun e w' => e = .returned (.tuple #[.agg #[.int .i64 15, .int .i64 1], .int .i64 0]) ∧ Below w.heap.size w w' := by
 have H : CutUp (bs s150) (bs s150) (bs [49]) (bs [53, 48]) (bs [53]) false true := ⟨by decide +kernel, by decide +kernel, by decide +kernel, by decide +kernel, by decide, by decide, by decide, by decide⟩
 refine (parse_Fo H (by decide +kernel) (.inr ⟨rfl, by decide +kernel⟩) (by decide) (by decide) (by decide) 15 (by decide +kernel) (by decide) m w hm).mono ?_
 rintro _ w' ⟨rfl, hb⟩
 exact ⟨by rw [show (decS (bs [53]).size ((15 : Nat) : Int) false).n = 15 by decide +kernel, show (decS (bs [53]).size ((15 : Nat) : Int) false).s = 1 by decide +kernel, show (decS (bs [53]).size ((15 : Nat) : Int) false).e = 0 by decide +kernel], hb⟩
theorem parse15 (m : Int) (w : World) (hm : w.cell? ⟨5, 0, none⟩ = some (.int .i64 m)) :
   Calls Tryz.prog 153 #[.string (bs s15)] w fun e w' => e = .returned (.tuple #[.agg #[.int .i64 15, .int .i64 1], .int .i64 0]) ∧ Below w.heap.size w w' := by
 have H : CutUp (bs s15) (bs s15) (bs [49]) (bs [53]) (bs [53]) false true := ⟨by decide +kernel, by decide +kernel, by decide +kernel, by decide +kernel, by decide, by decide, by decide, by decide⟩
 refine (parse_Fo H (by decide +kernel) (.inr ⟨rfl, by decide +kernel⟩) (by decide) (by decide) (by decide) 15 (by decide +kernel) (by decide) m w hm).mono ?_
 rintro _ w' ⟨rfl, hb⟩
 exact ⟨by rw [show (decS (bs [53]).size ((15 : Nat) : Int) false).n = 15 by decide +kernel, show (decS (bs [53]).size ((15 : Nat) : Int) false).s = 1 by decide +kernel, show (decS (bs [53]).size ((15 : Nat) : Int) false).e = 0 by decide +kernel], hb⟩
theorem parseDay (m : Int) (w : World) (hm : w.cell? ⟨5, 0, none⟩ = some (.int .i64 m)) :
   Calls Tryz.prog 116 #[.string (bs sDay)] w fun e w' => e = .returned (.tuple #[.int .i64 730119, .int .i64 0]) ∧ Below w.heap.size w w' := by
 refine (Days.parse_parts (bs sDay) ⟨#[50, 48, 48, 48]⟩ ⟨#[48, 49]⟩ ⟨#[48, 49]⟩ m (by decide) (by decide) (by decide) (by decide) (by decide +kernel) (by decide +kernel) w hm).mono ?_
 rintro e w' ⟨rfl, hb⟩
 exact ⟨by rw [show (Days.parseR ⟨#[50, 48, 48, 48]⟩ ⟨#[48, 49]⟩ ⟨#[48, 49]⟩).n = 730119 by decide +kernel, show (Days.parseR ⟨#[50, 48, 48, 48]⟩ ⟨#[48, 49]⟩ ⟨#[48, 49]⟩).e = 0 by decide +kernel], hb⟩
theorem lx_ok (m : Int) : LxOK (lxX m) m := by
 refine ⟨?_, ?_, ?_⟩
 · intro s l hl hlen W hW
   obtain rfl := bs_of hl
   show Calls Tryz.prog 153 #[.string (bs l)] W fun e w' => e = .returned (.tuple #[.agg #[.int .i64 (lxP m l).n, .int .i64 (lxP m l).s], .int .i64 (lxP m l).e]) ∧ Below W.heap.size W w'
   unfold lxP
   by_cases h1 : l = s150
   · rw [if_pos h1, h1]
     exact parse150 m W hW.hm
   · have h2 : (bs l).size < 4294967281 := by rw [bs_size]; omega
     rw [if_neg h1]
     by_cases h3 : l = s15
     · rw [if_pos h3, h3]
       exact parse15 m W hW.hm
     · rw [if_neg h3, dif_pos h2]
       exact (Classical.choose_spec (reads (bs l) m h2)).1 W hW.hm
 · intro s l hl hlen W hW
   obtain rfl := bs_of hl
   show Calls Tryz.prog 116 #[.string (bs l)] W fun e w' => e = .returned (.tuple #[.int .i64 (lxD m l).1, .int .i64 (lxD m l).2]) ∧ Below W.heap.size W w'
   unfold lxD
   by_cases h1 : l = sDay
   · rw [if_pos h1, h1]
     exact parseDay m W hW.hm
   · have h2 : (bs l).size < 4294967281 := by rw [bs_size]; omega
     rw [if_neg h1, dif_pos h2]
     exact (Classical.choose_spec (Classical.choose_spec (Days.parses (bs l) m h2))).1 W hW.hm
 · intro s l hl hlen W hW
   obtain rfl := bs_of hl
   exact good_any (bs l) _ rfl W hW.u8
end Go.Proofs.YtapilekangmcoaaGreatDoor
namespace Go.Proofs.YtapilekangmcoaaGreatDoor
open Go.RowKit
attribute [local go_sem high] run_tok_eql run_tok_neq tkeq_self run_dec_eql run_dec_neq
end Go.Proofs.YtapilekangmcoaaGreatDoor
namespace Go.Proofs.YtapilekangmcoaaGreatDoor
open Go.RowKit
attribute [local go_sem high] run_tok_eql run_tok_neq tkeq_self
end Go.Proofs.YtapilekangmcoaaGreatDoor
namespace Go.Proofs.YtapilekangmcoaaGreatDoor
open Go.RowKit
theorem tokens_far (s : ByteArray) (h : (65536 : Int) < (s.size : Int)) (w : World) : Calls Tryz.prog 46 #[.string s] w fun e w' => e = .returned (.tuple #[.slice none 0 0, .int .i64 0, .int .i64 10]) ∧ Below w.heap.size w w' := by
 go_enter Tryz.func46, Tryz.ntmps46
 go_wp2
 go_returns
 exact ⟨rfl, by (repeat' first | (with_reducible first | exact .refl _ _ | assumption | apply balloc | apply Below.drew | apply bset | refine bstep ?_ ‹_› | refine bturn ?_ ‹_› ?_) | go_size)⟩
theorem tokens_all (x : Lx) (m : Int) (H : LxOK x m) (s : ByteArray) (l : Bs) (hl : s.data.toList = l) (w : World) (hw : OKW m w) :
   Calls Tryz.prog 46 #[.string s] w fun e w' => (∃ A c, e = .returned (.tuple #[.slice A (toksS x l).l.length c, .int .i64 ((toksS x l).n : Int), .int .i64 (toksS x l).e]) ∧ TM w' A (toksS x l).l ∧ (toksS x l).l.length ≤ c ∧ c ≤ maxLen) ∧ Below w.heap.size w w' := by
 by_cases h : s.size ≤ 65536
 · exact tokens_any x m H s l hl h w hw
 · have hll : l.length = s.size := by rw [← hl, size_list]
   have hT : toksS x l = ⟨[], 0, 10⟩ := by unfold toksS; rw [if_pos (by omega)]
   rw [hT]
   refine (tokens_far s (by omega) w).mono ?_
   rintro _ w' ⟨rfl, hb⟩
   exact ⟨⟨none, 0, rfl, TM.nil _ _, Nat.le_refl _, by unfold maxLen; omega⟩, hb⟩
theorem TM.take {w : World} {A : Option Addr} {L M : List Tk} (h : TM w A (L ++ M)) : TM w A L := fun i t ht => h i t (by
 rw [List.getElem?_append_left (List.getElem?_eq_some_iff.1 ht).1]; exact ht)
theorem TM.drop {w : World} {g o : Nat} {L M : List Tk} (h : TM w (some ⟨g, o, none⟩) (L ++ M)) : TM w (some ⟨g, o + L.length * 6, none⟩) M := fun i t ht => by
 obtain ⟨g', o', e, hc⟩ := h (L.length + i) t (by rw [List.getElem?_append_right (by omega), Nat.add_sub_cancel_left]; exact ht)
 cases e
 exact ⟨g, _, rfl, fun j v hj => by rw [← hc j v hj]; congr 2; omega⟩
end Go.Proofs.YtapilekangmcoaaGreatDoor
namespace Go.Proofs.YtapilekangmcoaaGreatDoor
open Go.RowKit
end Go.Proofs.YtapilekangmcoaaGreatDoor
