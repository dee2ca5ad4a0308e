/- The law CalcSound answers true, whatever the expression, the list and the name that comes to it are. -/
import Derived.Test.YtapilekangmcoaaGreatDoorA62
import Derived.Test.YtapilekangmcoaaGreatDoorA63
import Derived.Test.YtapilekangmcoaaGreatDoorA54
set_option linter.unusedVariables false
set_option linter.unusedSimpArgs false
set_option maxHeartbeats 8000000
set_option maxRecDepth 100000
namespace Go.Proofs.YtapilekangmcoaaGreatDoor
open Go.RowKit Go.Shelf
theorem csound_any (x : Ex) (cs : Array Value) (hx0 : EV x) (A : Option Addr) (c : Nat) (L : List (Bs × Vl)) (hL0 : ∀ b ∈ L, VOk b.2) (hlen : L.length ≤ 2199023255488) (b : Bs × Vl) (hb0 : VOk b.2) (m : Int) (w : World) (hw : OKW m w) (hn : NU w) (hx : XM (fun _ => True) w x cs) (hL : RM clB 6 w A L) :
   Calls Tryz.prog 7 #[.agg cs, .slice A L.length c, .agg (clB b).toArray] w fun e w' => e = .returned (.bool true) ∧ Below w.heap.size w w' := by
 have KB := fun W (h : Below w.heap.size w W) => big11_all w x cs 1 300 W hx h (by decide) (by decide) (by decide)
 have HA := Lib.hid fun W (hW : Below w.heap.size w W) => calc_awake m W (hw.step hW) (hn.step hW)
 have KE := fun W (hW : Below w.heap.size w W) => Eval_any L A c x cs hx0 hL0 (by omega) m W (hw.step hW) (hn.step hW) (hx.step hW) (hL.step hW)
 have HS := fun W (_ : Below w.heap.size w W) => r4_sd b.2 hb0 W
 have KV := fun W A2 c2 (hW : Below w.heap.size w W) (hr : RM clB 6 W A2 (L ++ [b])) => Eval_any (L ++ [b]) A2 c2 x cs hx0 (by
   intro d hd
   rcases List.mem_append.1 hd with hd | hd
   · exact hL0 d hd
   · rw [List.mem_singleton.1 hd]; exact hb0) (by rw [List.length_append, List.length_singleton]; omega) m W (hw.step hW) (hn.step hW) (hx.step hW) hr
 have hmore := evalO_more (L := L) (x := x) (b := b)
 obtain ⟨C, kc, hcs, hkd⟩ := hx.kd
 subst hcs
 by_cases hz : bigS x 1 300 < 0
 · exact so_big x.op x.v.k x.v.n x.v.s x.v.m (bs x.v.t) (bs x.nm) C x.kids.length kc A L.length c (bs b.1) b.2.k b.2.n b.2.s b.2.m (bs b.2.t) _ hz w (Lib.hid KB) HA
 by_cases he : (evalO L x).2 = 0
 · by_cases hs : sd b.2 = true
   · obtain ⟨e1, e2⟩ := hmore ((sd_iff _).1 hs) he
     have HV := fun W (_ : Below w.heap.size w W) => r4_sd (evalO L x).1 (vs_ok e2) W
     rw [(sd_iff _).2 e2] at HV
     rw [hs] at HS
     rw [he] at KE
     rw [e1, he] at KV
     exact so_ok x.op x.v.k x.v.n x.v.s x.v.m (bs x.v.t) (bs x.nm) C x.kids.length kc A L.length c (bs b.1) b.2.k b.2.n b.2.s b.2.m (bs b.2.t) _ hz _ _ _ _ _ L b rfl hlen (Lib.hid rfl) w (Lib.hid KB) HA (Lib.hid KE) (Lib.hid HS) (Lib.hid HV) (Lib.hid hL)
       (Lib.hid fun W A2 c2 hW hr => by have h := KV W A2 c2 hW hr; rw [List.length_append, List.length_singleton] at h; exact h)
   · have hs' : sd b.2 = false := by simpa using hs
     rw [hs'] at HS
     rw [he] at KE
     exact so_bad x.op x.v.k x.v.n x.v.s x.v.m (bs x.v.t) (bs x.nm) C x.kids.length kc A L.length c (bs b.1) b.2.k b.2.n b.2.s b.2.m (bs b.2.t) _ hz _ _ _ _ _ w (Lib.hid KB) HA (Lib.hid KE) (Lib.hid HS)
 · exact so_err x.op x.v.k x.v.n x.v.s x.v.m (bs x.v.t) (bs x.nm) C x.kids.length kc A L.length c (bs b.1) b.2.k b.2.n b.2.s b.2.m (bs b.2.t) _ hz _ (by simpa using he) _ _ _ _ _ w (Lib.hid KB) HA (Lib.hid KE)
end Go.Proofs.YtapilekangmcoaaGreatDoor
