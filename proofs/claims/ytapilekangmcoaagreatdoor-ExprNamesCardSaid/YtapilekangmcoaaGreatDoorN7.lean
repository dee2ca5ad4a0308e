/- The walks of sync.Once, done for the first time: its parts. (Type numbers of this seat: 293 is a pointer to internal/sync.Mutex.) The walk of strings.Replacer's build, for the two pairs that quoting asks. The walks of strings.NewReplacer and of Replacer.buildOnce, for the two pairs that quoting asks. -/
import Derived.Defers
import Derived.Laws.Pointers
import Derived.Laws.LoneSync
import Derived.RegionTactic
import Derived.RegionCalls
import Derived.Laws.Tables
import Derived.Lib.SliceRun
import Derived.Laws.MakeOwn
import Derived.Laws.IdiomStrings
import Derived.OwnWalk
import Derived.BigRegion
import Derived.Laws.CopyRow
import Derived.Laws.CopyOwn
import Derived.Test.YtapilekangmcoaaGreatDoorN1
import Derived.Test.YtapilekangmcoaaGreatDoorN5
set_option linter.unusedVariables false
set_option linter.unusedSimpArgs false
set_option maxHeartbeats 8000000
set_option maxRecDepth 100000
namespace Go.Proofs.YtapilekangmcoaaGreatDoor
open Go.RowKit
theorem race_disable (w : World) : (callFunc 250 #[]).run Tryz.prog w = .ok (.value (.tuple #[])) w := run_call_mark0 Tryz.func250 (by kernel_rfl) (by kernel_rfl) (by kernel_rfl) .disable (by kernel_rfl) w
theorem race_enable (w : World) : (callFunc 252 #[]).run Tryz.prog w = .ok (.value (.tuple #[])) w := run_call_mark0 Tryz.func252 (by kernel_rfl) (by kernel_rfl) (by kernel_rfl) .enable (by kernel_rfl) w
theorem race_acquire (a : Addr) (w : World) : (callFunc 253 #[.pointer (some a)]).run Tryz.prog w = .ok (.value (.tuple #[])) w := run_call_marked Tryz.func253 (by kernel_rfl) (by kernel_rfl) (by kernel_rfl) .acquire (by kernel_rfl) a w
theorem race_release (a : Addr) (w : World) : (callFunc 255 #[.pointer (some a)]).run Tryz.prog w = .ok (.value (.tuple #[])) w := run_call_marked Tryz.func255 (by kernel_rfl) (by kernel_rfl) (by kernel_rfl) .releaseMerge (by kernel_rfl) a w
theorem store_deferred (a : Addr) (x : Value) (u : FrameMode) (w : World) (hc : w.cell? a = some x) (hz : w.frozen? a = false) :
   CallsD Tryz.prog 220 #[.pointer (some a), .bool true] u w fun e u' w' => u' = u ∧ (e = .returned (.tuple #[]) ∧ w' = w.drew.setCell a (.int .u32 1)) := by
 have hc' : w.drew.cell? a = some x := by go_simp
 have hz' : w.drew.frozen? a = false := by go_simp
 have hst := run_call_store (P := Tryz.prog) Tryz.func242 (by kernel_rfl) (by kernel_rfl) (by kernel_rfl) (by kernel_rfl) (k := .u32) (y := 1) hc' hz'
 go_enter_d Tryz.func220, Tryz.ntmps220
 go_wp2
 go_region_calls
 all_goals (go_end0; exact ⟨rfl, rfl⟩)
theorem unlock_deferred (a : Addr) (u : FrameMode) (w : World) (hc : w.cell? a = some (.int .i32 1)) (hz : w.frozen? a = false) :
   CallsD Tryz.prog 219 #[.pointer (some a)] u w fun e u' w' => u' = u ∧ (e = .returned (.tuple #[]) ∧ w' = w.setCell a (.int .i32 0)) := by
 have hd := race_disable
 have he := race_enable
 have hr := race_release
 have hadd := run_call_add (P := Tryz.prog) Tryz.func256 (by kernel_rfl) (by kernel_rfl) (by kernel_rfl) .i32 (by kernel_rfl) (y := -1) (s := 0) hc hz (by simp [go_sem]; rfl)
 have hcv := run_convert_to_unsafe (P := Tryz.prog) (src := 293) (dst := 193) Tryz.underlying293 Tryz.underlying193 (by kernel_rfl) hc
 go_enter_d Tryz.func219, Tryz.ntmps219
 go_wp2
 go_end0
 exact ⟨rfl, rfl⟩
theorem lock_free (a : Addr) (w : World) (hc : w.cell? a = some (.int .i32 0)) (hz : w.frozen? a = false) :
   Calls Tryz.prog 218 #[.pointer (some a)] w fun e w' => e = .returned (.tuple #[]) ∧ w' = w.setCell a (.int .i32 1) := by
 have hd := race_disable
 have he := race_enable
 have ha := race_acquire
 have hcas := run_call_cas_hit (P := Tryz.prog) Tryz.func251 (by kernel_rfl) (by kernel_rfl) (by kernel_rfl) .i32 (by kernel_rfl) (y := 1) hc hz
 have hc' : (w.setCell a (.int .i32 1)).cell? a = some (.int .i32 1) := World.cell?_setCell_same w a _ hc
 have hcv := run_convert_to_unsafe (P := Tryz.prog) (src := 293) (dst := 193) Tryz.underlying293 Tryz.underlying193 (by kernel_rfl) hc'
 go_enter Tryz.func218, Tryz.ntmps218
 go_wp2
 first | go_end0 | (simp only [Exit.inBlock, Exit.then]; refine bodyPost_ret (results_none rfl _ _ _) rfl ?_) | refine bodyPost_ret (results_none rfl _ _ _) rfl ?_
 exact ⟨rfl, rfl⟩
theorem done_load (a : Addr) (x : Int) (b : Bool) (hb : (x != 0) = b) (w : World) (h0 : w.cell? a = some (.int .u32 x)) :
   Calls Tryz.prog 193 #[.pointer (some a)] w fun e w' => e = .returned (.bool b) ∧ w = w' := by
 have hl := run_call_load (P := Tryz.prog) Tryz.func217 (by kernel_rfl) (by kernel_rfl) (by kernel_rfl) .u32 (by kernel_rfl) h0
 subst hb
 go_enter Tryz.func193, Tryz.ntmps193
 go_wp2
 go_ret
 exact ⟨rfl, rfl⟩
set_option maxHeartbeats 4000000 in
/-- Once's slow road, not done, the lock free: what the function makes of the world stands in between. -/
theorem slow_once (b : Nat) (V : World → Prop) (w : World)
   (h0 : w.cell? ⟨b, 0, none⟩ = some (.int .u32 0)) (h1 : w.cell? ⟨b, 1, none⟩ = some (.int .i32 0)) (f1 : w.frozen? ⟨b, 1, none⟩ = false)
   (HF : Hid (Calls Tryz.prog 168 #[.pointer (some ⟨b, 0, none⟩)] (w.setCell ⟨b, 1, none⟩ (.int .i32 1)) fun e w1 => e = .returned (.tuple #[]) ∧ V w1))
   (HV : Hid (∀ w1, V w1 → w1.cell? ⟨b, 0, none⟩ = some (.int .u32 0) ∧ w1.cell? ⟨b, 1, none⟩ = some (.int .i32 1) ∧ w1.frozen? ⟨b, 0, none⟩ = false ∧ w1.frozen? ⟨b, 1, none⟩ = false)) :
   Calls Tryz.prog 194 #[.pointer (some ⟨b, 0, none⟩), .func (.func 168) #[.pointer (some ⟨b, 0, none⟩)] #[]] w fun e w' => e = .returned (.tuple #[]) ∧ ∃ w1, V w1 ∧ w' = (w1.drew.setCell ⟨b, 0, none⟩ (.int .u32 1)).setCell ⟨b, 1, none⟩ (.int .i32 0) := by
 have h01 : (w.setCell ⟨b, 1, none⟩ (.int .i32 1)).cell? ⟨b, 0, none⟩ = some (.int .u32 0) := (World.cell?_setCell_other _ ⟨b, 1, none⟩ ⟨b, 0, none⟩ _ (by simp)).trans h0
 have HL := Lib.hid (done_load ⟨b, 0, none⟩ 0 false rfl _ h01)
 have HK := Lib.hid (lock_free ⟨b, 1, none⟩ w h1 f1)
 have hnot : ∀ (x : Bool) (w : World), (Op.unary .not (.bool x)).run Tryz.prog w = .ok (.bool (!x)) w := fun _ _ => rfl
 clear h01
 go_enter_defers Tryz.func194, Tryz.ntmps194
 go_wp2_with fail
 refine HK.out.mono ?_
 rintro _ _ ⟨rfl, rfl⟩
 go_wp2_with fail
 refine HL.out.mono ?_
 rintro _ _ ⟨rfl, rfl⟩
 go_wp2_with fail
 refine HF.out.mono ?_
 rintro _ w1 ⟨rfl, hV⟩
 obtain ⟨v0, v1, g0, g1⟩ := HV.out w1 hV
 go_wp2
 refine leaves_cons (f := 220) (args := #[.pointer (some ⟨b, 0, none⟩), .bool true]) (by simp) (by simp [go_sem]) ?_
 refine (store_deferred ⟨b, 0, none⟩ (.int .u32 0) .returning _ v0 g0).mono ?_
 rintro e u' w'' ⟨rfl, rfl, rfl⟩
 refine leaves_cons (f := 219) (args := #[.pointer (some ⟨b, 1, none⟩)]) (by simp [settle]) (by simp [go_sem]) ?_
 refine (unlock_deferred ⟨b, 1, none⟩ _ _ ?_ (by simp [g1])).mono ?_
 · refine (World.cell?_setCell_other _ ⟨b, 0, none⟩ ⟨b, 1, none⟩ _ (by simp)).trans ?_
   rw [World.cell?_drew]
   exact v1
 rintro e u' w'' ⟨rfl, rfl, rfl⟩
 simp [Leaves, settle, results, Tryz.results194]
 exact ⟨w1, hV, rfl⟩
set_option maxHeartbeats 4000000 in
theorem do_once (b : Nat) (V : World → Prop) (w : World)
   (h0 : w.cell? ⟨b, 0, none⟩ = some (.int .u32 0)) (h1 : w.cell? ⟨b, 1, none⟩ = some (.int .i32 0)) (f1 : w.frozen? ⟨b, 1, none⟩ = false)
   (HF : Hid (Calls Tryz.prog 168 #[.pointer (some ⟨b, 0, none⟩)] (w.setCell ⟨b, 1, none⟩ (.int .i32 1)) fun e w1 => e = .returned (.tuple #[]) ∧ V w1))
   (HV : Hid (∀ w1, V w1 → w1.cell? ⟨b, 0, none⟩ = some (.int .u32 0) ∧ w1.cell? ⟨b, 1, none⟩ = some (.int .i32 1) ∧ w1.frozen? ⟨b, 0, none⟩ = false ∧ w1.frozen? ⟨b, 1, none⟩ = false)) :
   Calls Tryz.prog 167 #[.pointer (some ⟨b, 0, none⟩), .func (.func 168) #[.pointer (some ⟨b, 0, none⟩)] #[]] w fun e w' => e = .returned (.tuple #[]) ∧ ∃ w1, V w1 ∧ w' = (w1.drew.setCell ⟨b, 0, none⟩ (.int .u32 1)).setCell ⟨b, 1, none⟩ (.int .i32 0) := by
 have HL := Lib.hid (done_load ⟨b, 0, none⟩ 0 false rfl _ h0)
 have HS := Lib.hid (slow_once b V w h0 h1 f1 HF HV)
 have hnot : ∀ (x : Bool) (w : World), (Op.unary .not (.bool x)).run Tryz.prog w = .ok (.bool (!x)) w := fun _ _ => rfl
 clear h0 h1 f1 HF HV
 go_enter Tryz.func167, Tryz.ntmps167
 go_wp2_with fail
 refine HL.out.mono ?_
 rintro _ _ ⟨rfl, rfl⟩
 go_wp2_with fail
 refine HS.out.mono ?_
 rintro _ w' ⟨rfl, hw⟩
 have HW := Lib.hid hw
 clear hw
 go_wp2
 go_end0
 exact ⟨rfl, HW.out⟩
end Go.Proofs.YtapilekangmcoaaGreatDoor
namespace Go.Proofs.YtapilekangmcoaaGreatDoor
open Go.RowKit
def repL : List Bs := [[92], [92, 92], [34], [92, 34]]
/-- The cells of a byteStringReplacer: what stands for each byte, and which are replaced. -/
def RC (p q t : Value) : Array Value := (((Array.replicate 257 (Value.slice none 0 0)).setIfInBounds 34 p).setIfInBounds 92 q).setIfInBounds 256 t
theorem RC_get (p q t : Value) (i : Nat) (hi : i < 257) : (RC p q t)[i]? = some (if i = 256 then t else if i = 92 then q else if i = 34 then p else .slice none 0 0) := by
 unfold RC
 by_cases h1 : i = 256
 · subst h1; simp
 · by_cases h2 : i = 92
   · subst h2; simp
   · by_cases h3 : i = 34
     · subst h3; simp
     · have g1 : ¬ 256 = i := fun e => h1 e.symm
       have g2 : ¬ 92 = i := fun e => h2 e.symm
       have g3 : ¬ 34 = i := fun e => h3 e.symm
       simp [h1, h2, h3, g1, g2, g3, hi]
theorem RC_size (p q t : Value) : (RC p q t).size = 257 := by simp [RC]
theorem RC_ext (p q t : Value) (A : Array Value) (hs : A.size = 257) (h : ∀ i, i < 257 → A[i]? = some (if i = 256 then t else if i = 92 then q else if i = 34 then p else .slice none 0 0)) : A = RC p q t := by
 apply Array.ext_getElem?
 intro i
 by_cases hi : i < 257
 · rw [h i hi, RC_get p q t i hi]
 · rw [Array.getElem?_eq_none (by omega), Array.getElem?_eq_none (by rw [RC_size]; omega)]
theorem RC_34 (p q t u : Value) : (RC p q t).setIfInBounds 34 u = RC u q t := by
 apply RC_ext
 · simp [RC_size]
 · intro i hi
   rw [Array.getElem?_setIfInBounds, RC_get p q t i hi, RC_size]
   by_cases h : 34 = i
   · subst h; simp
   · have h2 : ¬ i = 34 := fun e => h e.symm
     simp [h, h2]
theorem RC_92 (p q t u : Value) : (RC p q t).setIfInBounds 92 u = RC p u t := by
 apply RC_ext
 · simp [RC_size]
 · intro i hi
   rw [Array.getElem?_setIfInBounds, RC_get p q t i hi, RC_size]
   by_cases h : 92 = i
   · subst h; simp
   · have h2 : ¬ i = 92 := fun e => h e.symm
     simp [h, h2]
theorem RC_256 (p q t u : Value) : (RC p q t).setIfInBounds 256 u = RC p q u := by
 apply RC_ext
 · simp [RC_size]
 · intro i hi
   rw [Array.getElem?_setIfInBounds, RC_get p q t i hi, RC_size]
   by_cases h : 256 = i
   · subst h; simp
   · have h2 : ¬ i = 256 := fun e => h e.symm
     simp [h, h2]
section
variable {P : Program}
theorem run_alloc_z (w : World) (t : TypeId) (z : Value) (hz : (P.info? t).map (·.zero) = some (some z)) : (Instr.alloc t true (.tuple #[])).run P w = .ok (.pointer (some ⟨w.heap.size, 0, none⟩)) (w.alloc (.cells z.cells t)) := by
 cases hq : P.info? t with
 | none => simp [hq] at hz
 | some i =>
   have h0 : i.zero = some z := by simpa [hq] using hz
   simp [Instr.alloc, zeroValue, typeInfo, hq, h0, newVar, newRow]
end
theorem info_rep : (Tryz.prog.info? 264).map (·.zero) = some (some (.agg (RC (.slice none 0 0) (.slice none 0 0) (.slice none 0 0)))) := by kernel_rfl
theorem built_rep (a : Option Addr) (l c : Nat) : Tryz.prog.built 264 [(1, .slice a l c)] = some (RC (.slice none 0 0) (.slice none 0 0) (.slice a l c)) := by kernel_rfl
theorem all_rep (p q t : Value) (hp : p.oneCell' = true) (hq : q.oneCell' = true) (ht : t.oneCell' = true) : (RC p q t).all (·.oneCell') = true := by
 rw [Array.all_eq_true_iff_forall_mem]
 intro v hv
 obtain ⟨i, hi, rfl⟩ := Array.mem_iff_getElem.1 hv
 have h257 : i < 257 := by rw [RC_size] at hi; exact hi
 have h := RC_get p q t i h257
 rw [Array.getElem?_eq_getElem hi] at h
 have h2 := Option.some.inj h
 rw [h2]
 split
 · exact ht
 · split
   · exact hq
   · split
     · exact hp
     · rfl
theorem infoStr : (Tryz.prog.info? 9).map (fun i => (i.zero, i.size, i.bytes)) = some (some (.string ⟨#[]⟩), 1, 16) := by kernel_rfl
/-- A slice of bytes. -/
def ByS (w : World) (p : Value) (l : Bs) : Prop := ∃ g c, p = .slice (some ⟨g, 0, none⟩) l.length c ∧ ∀ i x, l[i]? = some x → w.cell? ⟨g, i, none⟩ = some (.int .u8 (x.toNat : Int))
theorem ByS.step {w w' : World} {p : Value} {l : Bs} (h : ByS w p l) (hb : RowKit.Below w.heap.size w w') : ByS w' p l := by
 obtain ⟨g, c, e, hc⟩ := h
 exact ⟨g, c, e, fun i x hx => keep1 hb (hc i x hx)⟩
/-- What build leaves. -/
def RB (w : World) (q : Nat) : Prop := ∃ (p r : Value) (gt ct : Nat), Blk w q 264 (RC p r (.slice (some ⟨gt, 0, none⟩) 2 ct)) ∧ ByS w p [92, 34] ∧ ByS w r [92, 92] ∧ SS w gt [[34], [92]]
theorem RB.step {w w' : World} {q : Nat} (h : RB w q) (hb : RowKit.Below w.heap.size w w') : RB w' q := by
 obtain ⟨p, r, gt, ct, h0, h1, h2, h3⟩ := h
 exact ⟨p, r, gt, ct, h0.step hb, h1.step hb, h2.step hb, h3.step hb⟩
theorem mk_rep (w : World) : (Instr.makeSlice 29 (.int .i64 0) (.int .i64 2)).run Tryz.prog w = .ok (.slice (some ⟨w.heap.size, 0, none⟩) 0 2) (w.alloc (.cells #[.string ⟨#[]⟩, .string ⟨#[]⟩] 9)) := by
 obtain ⟨i, hi⟩ : ∃ i, Tryz.prog.info? 9 = some i := by
   have := infoStr
   cases hq : Tryz.prog.info? 9 with
   | none => rw [hq] at this; cases this
   | some i => exact ⟨i, rfl⟩
 have h := infoStr
 rw [hi] at h
 have h1 : i.zero = some (.string ⟨#[]⟩) := by injection h with h; exact congrArg (·.1) h
 have h2 : i.size = 1 := by injection h with h; exact congrArg (·.2.1) h
 have h3 : i.bytes = 16 := by injection h with h; exact congrArg (·.2.2) h
 have hr := run_makeSlice w 29 9 i (.string ⟨#[]⟩) Tryz.underlying29 hi h1 .i64 .i64 0 2 (by decide) (by decide) (by rw [h2]; decide) (by rw [h3]; decide) (by decide)
 rw [h2] at hr
 have hm : madeCells (Value.string ⟨#[]⟩).cells (Int.toNat 2 * 1) = #[.string ⟨#[]⟩, .string ⟨#[]⟩] := by kernel_rfl
 rw [hm] at hr
 exact hr
theorem alloc_rep (w : World) : (Instr.alloc 264 true (.tuple #[])).run Tryz.prog w = .ok (.pointer (some ⟨w.heap.size, 0, none⟩)) (w.alloc (.cells (RC (.slice none 0 0) (.slice none 0 0) (.slice none 0 0)) 264)) := run_alloc_z w _ _ info_rep
theorem bld_rep (w : World) (a : Option Addr) (l c : Nat) : (Instr.build 264 #[(1, .slice a l c)]).run Tryz.prog w = .ok (.agg (RC (.slice none 0 0) (.slice none 0 0) (.slice a l c))) w := run_build w _ _ _ (built_rep a l c)
theorem zero_rep : Tryz.zeroCells264 = RC (.slice none 0 0) (.slice none 0 0) (.slice none 0 0) := by kernel_rfl
theorem zset_rep (a : Option Addr) (l c : Nat) : Tryz.zeroCells264.toList.set 256 (.slice a l c) = (RC (.slice none 0 0) (.slice none 0 0) (.slice a l c)).toList := by kernel_rfl
theorem st_rep (W : World) (q : Nat) (a : Option Addr) (l c : Nat) (hq : Blk W q 264 (RC (.slice none 0 0) (.slice none 0 0) (.slice none 0 0))) :
   (storeCells ⟨q, 0, none⟩ (Tryz.zeroCells264.toList.set 256 (.slice a l c))).run Tryz.prog W = .ok () (W.setRow q (RC (.slice none 0 0) (.slice none 0 0) (.slice a l c))) := by
 rw [zset_rep]
 have h := run_storeCells_at (P := Tryz.prog) q 0 264 (RC (.slice none 0 0) (.slice none 0 0) (.slice a l c)).toList 0 _ W hq (by simp [RC_size]) (fun v hv => by
   have := all_rep (.slice none 0 0) (.slice none 0 0) (.slice a l c) rfl rfl rfl
   rw [Array.all_eq_true_iff_forall_mem] at this
   exact this v (by simpa using hv))
 rw [h]
 congr 2
 first | done | (apply Array.ext'; simp [RC_size])
/-- Where build stands before its last loop. -/
theorem made_rep (w : World) : ∃ W1, (storeCells ⟨w.heap.size + 1, 0, none⟩ (Tryz.zeroCells264.toList.set 256 (.slice (some ⟨w.heap.size, 0, none⟩) 0 2))).run Tryz.prog ((w.alloc (.cells #[.string ⟨#[]⟩, .string ⟨#[]⟩] 9)).alloc (.cells Tryz.zeroCells264 264)) = .ok () W1
   ∧ Blk W1 (w.heap.size + 1) 264 (RC (.slice none 0 0) (.slice none 0 0) (.slice (some ⟨w.heap.size, 0, none⟩) 0 2)) ∧ Blk W1 w.heap.size 9 #[.string ⟨#[]⟩, .string ⟨#[]⟩] ∧ Below w.heap.size w W1 := by
 have hq : Blk ((w.alloc (.cells #[.string ⟨#[]⟩, .string ⟨#[]⟩] 9)).alloc (.cells Tryz.zeroCells264 264)) (w.heap.size + 1) 264 (RC (.slice none 0 0) (.slice none 0 0) (.slice none 0 0)) := by
   rw [← zero_rep]
   exact Blk.new' _ _ _ (by simp)
 have hb : Below w.heap.size w ((w.alloc (.cells #[.string ⟨#[]⟩, .string ⟨#[]⟩] 9)).alloc (.cells Tryz.zeroCells264 264)) := by (repeat' first | (with_reducible first | exact .refl _ _ | assumption | apply balloc | apply Below.drew | apply bset | refine bstep ?_ ‹_› | refine bturn ?_ ‹_› ?_) | go_size)
 have ho : Blk ((w.alloc (.cells #[.string ⟨#[]⟩, .string ⟨#[]⟩] 9)).alloc (.cells Tryz.zeroCells264 264)) w.heap.size 9 #[.string ⟨#[]⟩, .string ⟨#[]⟩] := (Blk.new w _ _).alloc _
 exact ⟨_, st_rep _ _ _ _ _ hq, setRow_heap _ _ _ _ _ _ hq, (setRow_other _ _ _ _ (by omega)).trans ho, below_setRow hb (by omega) _⟩
theorem Blk.setQ {w : World} {g : Nat} {t : TypeId} {cs : Array Value} (h : Blk w g t cs) (i : Nat) (u : Value) (cs' : Array Value) (he : cs.setIfInBounds i u = cs') : Blk (w.setCell ⟨g, i, none⟩ u) g t cs' := he ▸ h.set_ i u
theorem ss_two {w : World} {g : Nat} (h : Blk w g 9 #[.string ⟨#[34]⟩, .string ⟨#[92]⟩]) : SS w g [[34], [92]] := fun i l hl => by
 match i, hl with
 | 0, hl => cases hl; exact h.cell 0
 | 1, hl => cases hl; exact h.cell 1
/-- A row of bytes that has just been laid. -/
theorem bys_new (W : World) (l : Bs) (n cap c : Nat) (t : TypeId) (m : Nat × Nat) (hn : n = W.heap.size) : ByS (W.alloc (.cells (bytesRow ⟨l.toArray⟩ cap) t m)).drew (.slice (some ⟨n, 0, none⟩) l.length c) l := by
 subst hn
 refine ⟨_, _, rfl, fun i x hx => ?_⟩
 have h1 : (W.alloc (.cells (bytesRow ⟨l.toArray⟩ cap) t m)).heap[W.heap.size]? = some (.cells (bytesRow ⟨l.toArray⟩ cap) t m) := heap_alloc_new W _
 show (W.alloc (.cells (bytesRow ⟨l.toArray⟩ cap) t m)).cell? _ = _
 rw [cell_of_row _ W.heap.size i _ t m h1]
 have hi : i < l.length := (List.getElem?_eq_some_iff.1 hx).1
 unfold bytesRow
 rw [Array.getElem?_append_left (by simpa using hi)]
 simp [hx]
theorem sb_rep (s : ByteArray) (W : World) : (convert 9 87 (.string s)).run Tryz.prog W = .ok (.slice (some ⟨W.heap.size, 0, none⟩) s.size (grownCap W s.size 0 5))
     (W.drew.alloc (.cells (bytesRow s (grownCap W s.size 0 5)) 5 ((bytesRow s (grownCap W s.size 0 5)).size, (bytesRow s (grownCap W s.size 0 5)).size + 1))) :=
 run_bytes_of_string W 9 87 5 s Tryz.underlying9 Tryz.underlying87 Tryz.underlying5
theorem chr_rep (x : Int) (c : UInt8) (hx : (c.toNat : Int) = x) (W : World) :
   (convert 87 9 (.slice (some ⟨W.heap.size, 0, none⟩) 1 1)).run Tryz.prog (W.alloc (.cells #[.int .u8 x] 5)) = .ok (.string ⟨#[c]⟩) (W.alloc (.cells #[.int .u8 x] 5)) := by
 subst hx
 exact run_convert_bytes_back (P := Tryz.prog) (W.alloc (.cells #[.int .u8 (c.toNat : Int)] 5)) 87 9 5 ⟨W.heap.size, 0, none⟩ 1 [c] Tryz.underlying87 Tryz.underlying5 Tryz.underlying9 (fun j hj => by
   obtain rfl : j = 0 := by simp at hj; omega
   show (W.alloc _).cell? ((⟨W.heap.size, 0, none⟩ : Addr).add 0) = some (.int .u8 (c.toNat : Int))
   rw [show (⟨W.heap.size, 0, none⟩ : Addr).add 0 = ⟨W.heap.size, 0, none⟩ from rfl]
   exact (Blk.new W _ _).cell 0)
theorem build_rep (b g c : Nat) (w : World) (h4 : w.cell? ⟨b, 4, none⟩ = some (.slice (some ⟨g, 0, none⟩) 4 c)) (hS : SS w g repL) :
   Calls Tryz.prog 195 #[.pointer (some ⟨b, 0, none⟩)] w fun e w' => ∃ q, e = .returned (.iface 265 (.pointer (some ⟨q, 0, none⟩))) ∧ RB w' q ∧ Below w.heap.size w w' := by
 have s0 : w.cell? ⟨g, 0, none⟩ = some (.string ⟨#[92]⟩) := hS 0 _ rfl
 have s1 : w.cell? ⟨g, 1, none⟩ = some (.string ⟨#[92, 92]⟩) := hS 1 _ rfl
 have s2 : w.cell? ⟨g, 2, none⟩ = some (.string ⟨#[34]⟩) := hS 2 _ rfl
 have s3 : w.cell? ⟨g, 3, none⟩ = some (.string ⟨#[92, 34]⟩) := hS 3 _ rfl
 clear hS
 have hmk := mk_rep
 have hal := alloc_rep
 have hbl := bld_rep
 obtain ⟨W1, hst, hq, ho, hb1⟩ := made_rep w
 go_enter Tryz.func195, Tryz.ntmps195
 go_wp2_with fail
 go_loop [5, 4] (fun i f => (i = .int .i64 0 ∧ f = .bool true) ∨ (i = .int .i64 2 ∧ f = .bool false) ∨ (i = .int .i64 4 ∧ f = .bool false)) (fun i _ => 4 - (intOf i).toNat)
 case atStart => exact .inl ⟨rfl, rfl⟩
 case round =>
   rcases hrel with ⟨rfl, rfl⟩ | ⟨rfl, rfl⟩ | ⟨rfl, rfl⟩
   · go_wp2_with fail
     go_round
     case rel => exact .inr (.inl ⟨rfl, rfl⟩)
     case measure => simp [intOf]
   · go_wp2_with fail
     go_round
     case rel => exact .inr (.inr ⟨rfl, rfl⟩)
     case measure => simp [intOf]
   · go_wp2_with fail
     obtain ⟨q, gt, HA, hqb, hgb, hgq⟩ : ∃ q gt, (w.heap.size + 1 = q ∧ w.heap.size = gt ∧ Hid (Blk W1 q 264 (RC (.slice none 0 0) (.slice none 0 0) (.slice (some ⟨gt, 0, none⟩) 0 2)) ∧ Blk W1 gt 9 #[.string ⟨#[]⟩, .string ⟨#[]⟩] ∧ Below w.heap.size w W1)) ∧ w.heap.size ≤ q ∧ w.heap.size ≤ gt ∧ gt ≠ q := ⟨_, _, ⟨rfl, rfl, Lib.hid ⟨hq, ho, hb1⟩⟩, by omega, by omega, by omega⟩
     obtain ⟨hqe, hge, HA⟩ := HA
     have hqg : q ≠ gt := fun e => hgq e.symm
     clear hst hq ho hb1 hmk hal hbl
     rw [hqe]
     simp only [hge]
     go_loopw [12, 13, 14] (fun i _ _ wr => (i = .int .i64 2 ∧ Hid (Blk wr q 264 (RC (.slice none 0 0) (.slice none 0 0) (.slice (some ⟨gt, 0, none⟩) 0 2)) ∧ Blk wr gt 9 #[.string ⟨#[]⟩, .string ⟨#[]⟩] ∧ Below w.heap.size w wr))
       ∨ (i = .int .i64 0 ∧ Hid (∃ p, Blk wr q 264 (RC p (.slice none 0 0) (.slice (some ⟨gt, 0, none⟩) 1 2)) ∧ ByS wr p [92, 34] ∧ Blk wr gt 9 #[.string ⟨#[34]⟩, .string ⟨#[]⟩] ∧ Below w.heap.size w wr))
       ∨ (i = .int .i64 (-2) ∧ Hid (RB wr q ∧ Below w.heap.size w wr))) (fun i _ _ _ => (intOf i + 2).toNat)
     case atStart => exact .inl ⟨rfl, HA⟩
     case round =>
       rcases hrel with ⟨rfl, HA2⟩ | ⟨rfl, HB2⟩ | ⟨rfl, HC2⟩
       · obtain ⟨hq, ho, hbr⟩ := HA2.out
         have t0 := keep1 hbr s0
         have t1 := keep1 hbr s1
         have t2 := keep1 hbr s2
         have t3 := keep1 hbr s3
         have c34 : wr.cell? ⟨q, 34, none⟩ = some (.slice none 0 0) := by rw [hq.cell 34]; rfl
         have c256 : wr.cell? ⟨q, 256, none⟩ = some (.slice (some ⟨gt, 0, none⟩) 0 2) := by rw [hq.cell 256]; rfl
         have d0 : wr.cell? ⟨gt, 0, none⟩ = some (.string ⟨#[]⟩) := by rw [ho.cell 0]; rfl
         have f34 := hq.frozen 34
         have f256 := hq.frozen 256
         have g0 := ho.frozen 0
         have e34 : (((⟨#[34]⟩ : ByteArray)[0]'(by decide)).toNat : Int) = 34 := rfl
         have hch := chr_rep 34 34 rfl
         have hsb := sb_rep ⟨#[92, 34]⟩
         have hnil := fun (W : World) (a : Option Addr) (n c : Nat) => Lib.run_eql_slice_nil (P := Tryz.prog) W 87 5 a n c 0 0 Tryz.underlying87
         have Ho := Lib.hid ho
         have Hq := Lib.hid hq
         have Hbr := Lib.hid hbr
         have hq1 := hq.lt
         have hg1 := ho.lt
         have hlq := lts hq.lt
         have hlg := lts ho.lt
         clear hq ho hbr
         go_wp2_with fail
         go_roundw
         case rel =>
           refine .inr (.inl ⟨rfl, Lib.hid ⟨_, (((((((Hq.out.far (p := ⟨gt, 0, none⟩) hqg _).setQ 256 _ _ (RC_256 _ _ _ _)).setQ 34 _ _ (RC_34 _ _ _ _)).alloc _).alloc _).alloc _).drew), bys_new _ [92, 34] _ _ _ _ _ (by simp), (((((((Ho.out.setQ 0 _ _ rfl).far (p := ⟨q, 256, none⟩) hgq _).far (p := ⟨q, 34, none⟩) hgq _).alloc _).alloc _).alloc _).drew), ?_⟩⟩)
           have hbr := Hbr.out
           (repeat' first | (with_reducible first | exact .refl _ _ | assumption | apply balloc | apply Below.drew | apply bset | refine bstep ?_ ‹_› | refine bturn ?_ ‹_› ?_) | go_size)
         case measure => simp [intOf]
       · obtain ⟨p, hq, hp, ho, hbr⟩ := HB2.out
         obtain ⟨g1, c1, rfl, hp⟩ := hp
         have n1 : g1 ≠ q := by
           rintro rfl
           have h := hp 0 _ rfl
           rw [hq.cell 0, RC_get _ _ _ 0 (by decide)] at h
           simp at h
         have n2 : g1 ≠ gt := by
           rintro rfl
           have h := hp 0 _ rfl
           rw [ho.cell 0] at h
           simp at h
         have Hp := Lib.hid hp
         have t0 := keep1 hbr s0
         have t1 := keep1 hbr s1
         have t2 := keep1 hbr s2
         have t3 := keep1 hbr s3
         have c92 : wr.cell? ⟨q, 92, none⟩ = some (.slice none 0 0) := by rw [hq.cell 92]; rfl
         have c256 : wr.cell? ⟨q, 256, none⟩ = some (.slice (some ⟨gt, 0, none⟩) 1 2) := by rw [hq.cell 256]; rfl
         have d1 : wr.cell? ⟨gt, 1, none⟩ = some (.string ⟨#[]⟩) := by rw [ho.cell 1]; rfl
         have f92 := hq.frozen 92
         have f256 := hq.frozen 256
         have g0 := ho.frozen 1
         have e92 : (((⟨#[92]⟩ : ByteArray)[0]'(by decide)).toNat : Int) = 92 := rfl
         have hch := chr_rep 92 92 rfl
         have hsb := sb_rep ⟨#[92, 92]⟩
         have hnil := fun (W : World) (a : Option Addr) (n c : Nat) => Lib.run_eql_slice_nil (P := Tryz.prog) W 87 5 a n c 0 0 Tryz.underlying87
         have Ho := Lib.hid ho
         have Hq := Lib.hid hq
         have Hbr := Lib.hid hbr
         have hq1 := hq.lt
         have hg1 := ho.lt
         have hlq := lts hq.lt
         have hlg := lts ho.lt
         clear hq ho hbr hp
         go_wp2_with fail
         go_roundw
         case rel =>
           refine .inr (.inr ⟨rfl, Lib.hid ⟨⟨_, _, gt, 2, (((((((Hq.out.far (p := ⟨gt, 1, none⟩) hqg _).setQ 256 _ _ (RC_256 _ _ _ _)).setQ 92 _ _ (RC_92 _ _ _ _)).alloc _).alloc _).alloc _).drew), ⟨g1, c1, rfl, fun i x hx => keep1 (Below.drew (Below.alloc (Below.alloc (Below.alloc (Below.refl _ _) (by simp) _) (by first | (simp; done) | (simp; omega)) _) (by first | (simp; done) | (simp; omega)) _)) ?_⟩, bys_new _ [92, 92] _ _ _ _ _ (by simp), ?_⟩, ?_⟩⟩)
           · rw [World.cell?_setCell_other _ _ _ _ (by simp [n1]), World.cell?_setCell_other _ _ _ _ (by simp [n1]), World.cell?_setCell_other _ _ _ _ (by simp [n2])]
             exact Hp.out i x hx
           · exact ss_two ((((((((Ho.out.setQ 1 _ _ rfl).far (p := ⟨q, 256, none⟩) hgq _).far (p := ⟨q, 92, none⟩) hgq _).alloc _).alloc _).alloc _).drew))
           · have hbr := Hbr.out
             (repeat' first | (with_reducible first | exact .refl _ _ | assumption | apply balloc | apply Below.drew | apply bset | refine bstep ?_ ‹_› | refine bturn ?_ ‹_› ?_) | go_size)
         case measure => simp [intOf]
       · go_wp2_with fail
         go_returns
         exact ⟨q, rfl, HC2.out.1, HC2.out.2⟩
end Go.Proofs.YtapilekangmcoaaGreatDoor
namespace Go.Proofs.YtapilekangmcoaaGreatDoor
open Go.RowKit
/-- The cells of a Replacer. -/
def RPC (d m : Int) (r o : Value) : Array Value := #[.int .u32 d, .int .i32 m, .int .u32 0, r, o]
theorem built_rp (a : Option Addr) (l c : Nat) : Tryz.prog.built 211 [(2, .slice a l c)] = some (RPC 0 0 .nilIface (.slice a l c)) := by kernel_rfl
theorem info_parts' {t : TypeId} {z : Option Value} {k b : Nat} (h : (Tryz.prog.info? t).map (fun i => (i.zero, i.size, i.bytes)) = some (z, k, b)) : ∃ i, Tryz.prog.info? t = some i ∧ i.zero = z ∧ i.size = k ∧ i.bytes = b := by
 cases hq : Tryz.prog.info? t with
 | none => rw [hq] at h; cases h
 | some i =>
   rw [hq] at h
   have h2 : (i.zero, i.size, i.bytes) = (z, k, b) := by injection h
   exact ⟨i, rfl, congrArg (·.1) h2, congrArg (·.2.1) h2, congrArg (·.2.2) h2⟩
theorem new_rep (g c : Nat) (w : World) (hS : SS w g repL) :
   Calls Tryz.prog 135 #[.slice (some ⟨g, 0, none⟩) 4 c] w fun e w' => ∃ b g2 c2, e = .returned (.pointer (some ⟨b, 0, none⟩)) ∧ Blk w' b 211 (RPC 0 0 .nilIface (.slice (some ⟨g2, 0, none⟩) 4 c2)) ∧ SS w' g2 repL ∧ w.heap.size ≤ b ∧ Below w.heap.size w w' := by
 obtain ⟨i0, hi, hz0, hz1, hz2⟩ := info_parts' infoStr
 have HS := Lib.hid hS
 clear hS
 go_enter Tryz.func135, Tryz.ntmps135
 go_wp2_with (at_builtin; refine wpList_append_own _ rfl _ _ 29 rfl w.heap.size 9 i0 (.string ⟨#[]⟩) 1 16 Tryz.underlying29 hi hz0 hz1 hz2 rfl (by decide) (.slice none 0 0) 0 [] rfl (World.ownsRow_nil _ _ _ _) ⟨g, 0, none⟩ 4 c (repL.map fun l => Value.string (bs l)) rfl rfl ?c1 ?c2 ?c3 ?c4 ?c5 ?_)
 case c1 =>
   intro j u hj
   rw [List.getElem?_map, Option.map_eq_some_iff] at hj
   obtain ⟨l, hl, rfl⟩ := hj
   rw [show (⟨g, 0, none⟩ : Addr).add j = ⟨g, j, none⟩ by unfold Addr.add; split <;> simp_all]
   exact HS.out j l hl
 case c2 => intro u hu; obtain ⟨l, _, rfl⟩ := List.mem_map.1 hu; rfl
 case c3 => unfold maxLen; omega
 case c4 => omega
 case c5 => exact Nat.le_refl _
 intro v w1 h1 h2 h3
 have hb : Below w.heap.size w w1 := ⟨h2.os, h2.tape, h2.output, h2.size, fun k hk => h2.block k hk (by rintro ⟨⟩)⟩
 obtain ⟨g2, c2, rfl, hs2⟩ : ∃ g2 c2, v = .slice (some ⟨g2, 0, none⟩) 4 c2 ∧ SS w1 g2 repL := by
   rcases h1.2 with ⟨_, h0⟩ | ⟨g2, cap, cur, hv, _, _, _, _, _⟩
   · cases h0
   · refine ⟨g2, cap, hv, fun j l hl => ?_⟩
     have := h1.cells (g := g2) (by rw [hv]; rfl) j (.string (bs l)) (by rw [List.getElem?_map, hl]; rfl)
     rw [show (⟨g2, 0, none⟩ : Addr).add j = ⟨g2, j, none⟩ by unfold Addr.add; split <;> simp_all] at this
     exact this
 have Hb := Lib.hid hb
 have Hs := Lib.hid hs2
 have hbd := fun W => run_build W 211 _ _ (built_rp (some ⟨g2, 0, none⟩) 4 c2)
 clear h1 h2 h3 hb hs2
 go_wp2_with fail
 go_returns
 exact ⟨_, g2, c2, rfl, Blk.new' _ _ _ rfl, Hs.out.step (by have := Hb.out; exact (Below.refl _ _).alloc (Nat.le_refl _) _), Hb.out.size, by have hb := Hb.out; (repeat' first | (with_reducible first | exact .refl _ _ | assumption | apply balloc | apply Below.drew | apply bset | refine bstep ?_ ‹_› | refine bturn ?_ ‹_› ?_) | go_size)⟩
theorem ByS.far {w : World} {b : Nat} {d m : Int} {r o : Value} {p : Value} {x : UInt8} {l : Bs} (h : ByS w p (x :: l)) (hb : Blk w b 211 (RPC d m r o)) (i : Nat) (u : Value) : ByS (w.setCell ⟨b, i, none⟩ u) p (x :: l) := by
 obtain ⟨g, c, rfl, hc⟩ := h
 have n : g ≠ b := by
   rintro rfl
   have h := hc 0 _ rfl
   rw [hb.cell 0] at h
   simp [RPC] at h
 exact ⟨g, c, rfl, fun j y hy => by rw [World.cell?_setCell_other _ _ _ _ (by simp [n])]; exact hc j y hy⟩
theorem RB.far {w : World} {b q : Nat} {d m : Int} {r o : Value} (h : RB w q) (hb : Blk w b 211 (RPC d m r o)) (i : Nat) (u : Value) : RB (w.setCell ⟨b, i, none⟩ u) q := by
 obtain ⟨p, r', gt, ct, h0, h1, h2, h3⟩ := h
 have n1 : q ≠ b := by
   rintro rfl
   have h := Option.some.inj (h0.symm.trans hb)
   injection h with e1 e2
   exact absurd e2 (by decide)
 have n2 : gt ≠ b := by
   rintro rfl
   have h := h3 0 _ rfl
   rw [hb.cell 0] at h
   simp [RPC] at h
 exact ⟨p, r', gt, ct, h0.far (p := ⟨b, i, none⟩) n1 u, h1.far hb i u, h2.far hb i u, fun j l hl => by rw [World.cell?_setCell_other _ _ _ _ (by simp [n2])]; exact h3 j l hl⟩
/-- What buildOnce leaves. -/
def VP (B b : Nat) (w w' : World) (d m : Int) : Prop := ∃ q, Blk w' b 211 (RPC d m (.iface 265 (.pointer (some ⟨q, 0, none⟩))) (.slice none 0 0)) ∧ RB w' q ∧ Below B w w'
theorem once_rep (B b g c : Nat) (hB : B ≤ b) (w : World) (hb : Blk w b 211 (RPC 0 1 .nilIface (.slice (some ⟨g, 0, none⟩) 4 c))) (hS : SS w g repL) :
   Calls Tryz.prog 168 #[.pointer (some ⟨b, 0, none⟩)] w fun e w' => e = .returned (.tuple #[]) ∧ VP B b w w' 0 1 := by
 have HK := Lib.hid (build_rep b g c w (by rw [hb.cell 4]; rfl) hS)
 have Hb := Lib.hid hb
 clear hS hb
 go_enter Tryz.func168, Tryz.ntmps168
 go_wp2_with fail
 refine HK.out.mono ?_
 rintro _ w1 ⟨q, rfl, hq, hw⟩
 have hb1 := Hb.out.step hw
 have hlt := hb1.lt
 have hlts := lts hlt
 have c3 : w1.cell? ⟨b, 3, none⟩ = some .nilIface := by rw [hb1.cell 3]; rfl
 have c4 : w1.cell? ⟨b, 4, none⟩ = some (.slice (some ⟨g, 0, none⟩) 4 c) := by rw [hb1.cell 4]; rfl
 have z3 := hb1.frozen 3
 have z4 := hb1.frozen 4
 have Hq := Lib.hid hq
 have Hw := Lib.hid hw
 have Hb1 := Lib.hid hb1
 clear hq hw hb1
 go_wp2_with fail
 go_end0
 have k1 := Hb1.out.setQ 3 (.iface 265 (.pointer (some ⟨q, 0, none⟩))) _ rfl
 refine ⟨rfl, q, k1.setQ 4 _ _ rfl, (Hq.out.far Hb1.out 3 _).far k1 4 _, ?_⟩
 exact ((Hw.out.mono (by have := Hb.out.lt; omega)).setCell hB _).setCell hB _
end Go.Proofs.YtapilekangmcoaaGreatDoor
