/- The walk of expr.sound at one expression. The walk of expr.Sound, for every expression. What reckoning with values computes, plainly. No program in sight. The walks over bindings: what is asked of each, the first that is so, whether any is. The walks of package logic, over plain values. The texts that the laws of calc read: what each is, plainly. Reading an expression goes forward through the tokens: plainly. The walk of expr.Parser's Value. Printed by genval.py. The walk of expr.Parser's Value, in all its ways. The walks of expr's make and levels, and of what looks for an operator. How a call that reads an expression ends: what is asked of Expr, chain and prefix. The walk of expr.Parser's Expr. The walks of expr.Parser's prefix at a value. Printed by genpre.py. Values and rows of structs that came in as an argument: how they read. -/
import Derived.Deep.QuietTactic
import Derived.BigQuiet
import Derived.Test.YtapilekangmcoaaGreatDoorA22
import Derived.Test.YtapilekangmcoaaGreatDoorA6
import Derived.Test.YtapilekangmcoaaGreatDoorA10
import Derived.Test.YtapilekangmcoaaGreatDoorA1
import Derived.Test.YtapilekangmcoaaGreatDoorA19
import Derived.Test.YtapilekangmcoaaGreatDoorA21
set_option linter.unusedVariables false
set_option linter.unusedSimpArgs false
set_option maxHeartbeats 8000000
set_option maxRecDepth 100000
namespace Go.Proofs.YtapilekangmcoaaGreatDoor
open Go.RowKit
attribute [local go_sem high] run_vl_eql run_vl_neq
/-- May it have this value and this name? By what the walk asks. -/
def okB (o : Int) (re wb zv sd ng : Bool) : Bool := if o = 2 then !re && wb && zv && sd && !ng else if o = 1 then re && sd && !ng else re && zv && sd && !ng
section
variable (o vk vn vs vm : Int) (q r : ByteArray) (A : Option Addr) (N c d lb : Nat) (l l1 kn : Int) (w0 w : World) (R : Bool × Int) (re wb zv sd ng : Bool)
set_option maxHeartbeats 16000000 in
theorem snd_node (hs : SB w0 w lb l) (hl : IntKind.i64.wrap (l - 1) = l1) (hkn : kidsN o = kn) (hd : d ≤ 100) (hre : r.toList.isEmpty = re) (hzv : vlq vk vn vs q vm 0 0 0 ⟨#[]⟩ 0 = zv) (hng : decide (vn < 0) = ng)
   (KW : Hid (∀ W, Calls Tryz.prog 79 #[.string r] W fun e w' => e = .returned (.bool wb) ∧ Below W.heap.size W w'))
   (KV : Hid (∀ W, Below w0.heap.size w0 W → Calls Tryz.prog 32 #[.agg #[.int .i64 vk, .int .i64 vn, .int .i64 vs, .string q, .int .i64 vm]] W fun e w' => e = .returned (.bool sd) ∧ Below W.heap.size W w'))
   (KC : Hid (d ≤ 64 → 0 ≤ l1 → ∀ D P W, SB w0 W lb l1 → CL W D P lb d → Calls Tryz.prog 80 #[.slice A N c, .func (.func 81) #[] #[.pointer (some ⟨D, 0, none⟩), .pointer (some ⟨P, 0, none⟩)]] W fun e w' => e = .returned (.bool (!R.1)) ∧ SB w0 w' lb R.2 ∧ Gr lb W w')) :
   Calls Tryz.prog 52 #[.agg #[.int .i64 o, .int .i64 vk, .int .i64 vn, .int .i64 vs, .string q, .int .i64 vm, .string r, .slice A N c], .int .i64 (d : Int), .pointer (some ⟨lb, 0, none⟩)] w fun e w' =>
     e = .returned (.bool ((decide (d ≤ 64) && (decide (0 ≤ l1) && decide ((N : Int) = kn))) && (okB o re wb zv sd ng && R.1))) ∧ SB w0 w' lb (if ((decide (d ≤ 64) && (decide (0 ≤ l1) && decide ((N : Int) = kn))) && okB o re wb zv sd ng) = true then R.2 else l1) ∧ Gr lb w w' := by
 obtain ⟨C, hC⟩ : ∃ C, (decide (d ≤ 64) && (decide (0 ≤ l1) && decide ((N : Int) = kn))) = C := ⟨_, rfl⟩
 obtain ⟨K, hK⟩ : ∃ K, okB o re wb zv sd ng = K := ⟨_, rfl⟩
 rw [hC, hK]
 have HC := Lib.hid hC
 have HK := Lib.hid hK
 clear hC hK
 have hlt := hs.blk.lt
 have hll := lts hlt
 have hc0 := hs.blk.cell 0
 simp at hc0
 have hf0 := hs.blk.frozen 0
 have G1 : Hid (Gr lb w (((((w.setCell ⟨lb, 0, none⟩ (.int .i64 l1)).alloc (.cells #[.int .i64 o, .int .i64 vk, .int .i64 vn, .int .i64 vs, .string q, .int .i64 vm, .string r, .slice A N c] 33)).alloc (.cells #[.int .i64 (d : Int)] 3)).alloc (.cells #[.pointer (some ⟨lb, 0, none⟩)] 80)))) := Lib.hid (by (repeat' (first | (with_reducible exact Gr.refl _ _) | (with_reducible assumption) | (with_reducible refine Gr.alloc ?_ _) | (with_reducible refine Gr.drew ?_) | (with_reducible refine Gr.drewN ?_ _) | (with_reducible refine Gr.set ?_ _ _) | (with_reducible refine Gr.far ?_ ?_ _) | (with_reducible refine Gr.trans ?_ (by with_reducible assumption)) | (with_reducible refine Gr.bstep ?_ (by with_reducible assumption)) | (with_reducible refine Gr.turn ?_ (by with_reducible assumption)) | (with_reducible refine Gr.turnFar ?_ (by with_reducible assumption) ?_) | go_size | ((try simp only [World.size_alloc, World.size_setCell, World.size_drew]); omega))))
 have S1 : Hid (SB w0 (((((w.setCell ⟨lb, 0, none⟩ (.int .i64 l1)).alloc (.cells #[.int .i64 o, .int .i64 vk, .int .i64 vn, .int .i64 vs, .string q, .int .i64 vm, .string r, .slice A N c] 33)).alloc (.cells #[.int .i64 (d : Int)] 3)).alloc (.cells #[.pointer (some ⟨lb, 0, none⟩)] 80))) lb l1) := Lib.hid ⟨hs.bel.trans ⟨rfl, rfl, rfl, by simp [World.setCell]; omega, fun k hk => by
     have := G1.out.block k (by have := hs.bel.size; omega) (by have := hs.new; omega)
     exact this⟩, by
   have := hs.blk.set_ 0 (.int .i64 l1)
   exact (((by simpa using this : Blk _ lb _ _).alloc _).alloc _).alloc _, hs.new⟩
 have C1 : Hid (CL (((((w.setCell ⟨lb, 0, none⟩ (.int .i64 l1)).alloc (.cells #[.int .i64 o, .int .i64 vk, .int .i64 vn, .int .i64 vs, .string q, .int .i64 vm, .string r, .slice A N c] 33)).alloc (.cells #[.int .i64 (d : Int)] 3)).alloc (.cells #[.pointer (some ⟨lb, 0, none⟩)] 80))) (w.heap.size + 1) (w.heap.size + 1 + 1) lb d) := Lib.hid ⟨((Blk.new' _ _ _ (by simp [World.setCell])).alloc _ : Blk (((((w.setCell ⟨lb, 0, none⟩ (.int .i64 l1)).alloc (.cells #[.int .i64 o, .int .i64 vk, .int .i64 vn, .int .i64 vs, .string q, .int .i64 vm, .string r, .slice A N c] 33)).alloc (.cells #[.int .i64 (d : Int)] 3)).alloc (.cells #[.pointer (some ⟨lb, 0, none⟩)] 80))) (w.heap.size + 1) 3 #[.int .i64 (d : Int)]).cell 0, (Blk.new' _ _ _ (by simp [World.setCell]) : Blk (((((w.setCell ⟨lb, 0, none⟩ (.int .i64 l1)).alloc (.cells #[.int .i64 o, .int .i64 vk, .int .i64 vn, .int .i64 vs, .string q, .int .i64 vm, .string r, .slice A N c] 33)).alloc (.cells #[.int .i64 (d : Int)] 3)).alloc (.cells #[.pointer (some ⟨lb, 0, none⟩)] 80))) (w.heap.size + 1 + 1) 80 #[.pointer (some ⟨lb, 0, none⟩)]).cell 0, by omega, by omega⟩
 have K1 : Hid (Blk (((((w.setCell ⟨lb, 0, none⟩ (.int .i64 l1)).alloc (.cells #[.int .i64 o, .int .i64 vk, .int .i64 vn, .int .i64 vs, .string q, .int .i64 vm, .string r, .slice A N c] 33)).alloc (.cells #[.int .i64 (d : Int)] 3)).alloc (.cells #[.pointer (some ⟨lb, 0, none⟩)] 80))) w.heap.size 33 #[.int .i64 o, .int .i64 vk, .int .i64 vn, .int .i64 vs, .string q, .int .i64 vm, .string r, .slice A N c]) := Lib.hid (((Blk.new' _ _ _ (by simp [World.setCell])).alloc _).alloc _)
 have HB := Lib.hid hs.bel
 clear hs
 go_enter Tryz.func52, Tryz.ntmps52
 go_upto_region 2 with fail
 generalize ((((w.setCell ⟨lb, 0, none⟩ (.int .i64 l1)).alloc (.cells #[.int .i64 o, .int .i64 vk, .int .i64 vn, .int .i64 vs, .string q, .int .i64 vm, .string r, .slice A N c] 33)).alloc (.cells #[.int .i64 (d : Int)] 3)).alloc (.cells #[.pointer (some ⟨lb, 0, none⟩)] 80)) = w1 at *
 clear hc0 hf0 hll
 have c1 := C1.out.d
 have c2 := C1.out.p
 have c3 := S1.out.blk.cell 0
 simp at c3
 have k1 := K1.out
 have HKN := Lib.hid hkn
 obtain ⟨hlx, hllx, qx0, qx1, qx2, qx3, qx4, qx5, qx6, qx7, zx0, zx1, zx2, zx3, zx4, zx5, zx6, zx7⟩ := bf8 k1; (try simp at qx0 qx1 qx2 qx3 qx4 qx5 qx6 qx7); have Hk1 := Lib.hid k1; clear k1
 go_cut [28] (fun z wx => z = .bool (!C) ∧ Below w1.heap.size w1 wx)
 case first =>
   by_cases h1 : d ≤ 64
   · have e1 : decide ((64 : Int) < (d : Int)) = false := decide_eq_false (by omega)
     by_cases h2 : 0 ≤ l1
     · have e2 : decide (l1 < 0) = false := decide_eq_false (by omega)
       by_cases h3 : (N : Int) = kn
       · have e3 : ((N : Int) != kn) = false := by simpa using h3
         go_region_with (go_at_call 78; refine (kids_any _ _).mono ?_; rw [HKN.out]; rintro e w' ⟨rfl, rfl⟩)
         all_goals
           go_wp2_with fail
           go_meet
           case rel => exact ⟨by rw [← HC.out]; simp [*], by (repeat' first | (with_reducible first | apply bdrewN | exact .refl _ _ | assumption | apply balloc | apply Below.drew | apply bset | refine bstep ?_ ‹_› | refine bturn ?_ ‹_› ?_) | go_size)⟩
       · have e3 : ((N : Int) != kn) = true := by simpa using h3
         go_region_with (go_at_call 78; refine (kids_any _ _).mono ?_; rw [HKN.out]; rintro e w' ⟨rfl, rfl⟩)
         all_goals
           go_wp2_with fail
           go_meet
           case rel => exact ⟨by rw [← HC.out]; simp [*], by (repeat' first | (with_reducible first | apply bdrewN | exact .refl _ _ | assumption | apply balloc | apply Below.drew | apply bset | refine bstep ?_ ‹_› | refine bturn ?_ ‹_› ?_) | go_size)⟩
     · have e2 : decide (l1 < 0) = true := decide_eq_true (by omega)
       go_quiet (fail)
       go_wp2_with fail
       go_meet
       case rel => exact ⟨by rw [← HC.out]; simp [*], by (repeat' first | (with_reducible first | apply bdrewN | exact .refl _ _ | assumption | apply balloc | apply Below.drew | apply bset | refine bstep ?_ ‹_› | refine bturn ?_ ‹_› ?_) | go_size)⟩
   · have e1 : decide ((64 : Int) < (d : Int)) = true := decide_eq_true (by omega)
     go_quiet (fail)
     go_wp2_with fail
     go_meet
     case rel => exact ⟨by rw [← HC.out]; simp [*], by (repeat' first | (with_reducible first | apply bdrewN | exact .refl _ _ | assumption | apply balloc | apply Below.drew | apply bset | refine bstep ?_ ‹_› | refine bturn ?_ ‹_› ?_) | go_size)⟩
 case rest =>
   obtain ⟨rfl, hb2⟩ := hcut
   rename World => w2
   clear c1 c2 c3 qx0 qx1 qx2 qx3 qx4 qx5 qx6 qx7 zx0 zx1 zx2 zx3 zx4 zx5 zx6 zx7 hlx hllx
   have S2 := Lib.hid (S1.out.step hb2)
   have G2 := Lib.hid (G1.out.bstep hb2)
   have K2 := Lib.hid (K1.out.step hb2)
   have C2 : Hid (CL w2 (w.heap.size + 1) (w.heap.size + 1 + 1) lb d) := Lib.hid ⟨keep1 hb2 C1.out.d, keep1 hb2 C1.out.p, C1.out.nd, C1.out.np⟩
   clear S1 G1 K1 C1 hb2
   cases C with
   | false =>
     rw [show (!false) = true from rfl]
     go_wp2_with fail
     go_returns
     exact ⟨by simp, by simpa using S2.out, G2.out⟩
   | true =>
     rw [show (!true) = false from rfl]
     have k2 := K2.out
     obtain ⟨hlx, hllx, qx0, qx1, qx2, qx3, qx4, qx5, qx6, qx7, zx0, zx1, zx2, zx3, zx4, zx5, zx6, zx7⟩ := bf8 k2; (try simp at qx0 qx1 qx2 qx3 qx4 qx5 qx6 qx7); have Hk2 := Lib.hid k2; clear k2
     go_upto_region 4 with fail
     go_cut [70] (fun z wx => z = .bool (!K) ∧ Below w2.heap.size w2 wx)
     case first =>
       by_cases h2 : o = 2
       · subst h2
         cases re with
         | true =>
           go_wp2_with fail
           go_meet
           case rel => exact ⟨by rw [← HK.out]; simp [okB], by (repeat' first | (with_reducible first | exact .refl _ _ | assumption | apply balloc | apply Below.drew | apply bset | refine bstep ?_ ‹_› | refine bturn ?_ ‹_› ?_) | go_size)⟩
         | false =>
           go_wp2_with fail
           refine (KW.out _).mono ?_
           rintro e wa ⟨rfl, hba⟩
           have ka := K2.out.step hba
           have Ka := Lib.hid ka
           clear qx0 qx1 qx2 qx3 qx4 qx5 qx6 qx7 zx0 zx1 zx2 zx3 zx4 zx5 zx6 zx7 hlx hllx
           cases wb with
           | false =>
             go_wp2_with fail
             go_meet
             case rel => exact ⟨by rw [← HK.out]; simp [okB], by (repeat' first | (with_reducible first | exact .refl _ _ | assumption | apply balloc | apply Below.drew | apply bset | refine bstep ?_ ‹_› | refine bturn ?_ ‹_› ?_) | go_size)⟩
           | true =>
             obtain ⟨hly, hlly, qy0, qy1, qy2, qy3, qy4, qy5, qy6, qy7, zy0, zy1, zy2, zy3, zy4, zy5, zy6, zy7⟩ := bf8 ka; (try simp at qy0 qy1 qy2 qy3 qy4 qy5 qy6 qy7); have Hka := Lib.hid ka; clear ka
             cases zv with
             | false =>
               go_wp2_with fail
               go_meet
               case rel => exact ⟨by rw [← HK.out]; simp [okB], by (repeat' first | (with_reducible first | exact .refl _ _ | assumption | apply balloc | apply Below.drew | apply bset | refine bstep ?_ ‹_› | refine bturn ?_ ‹_› ?_) | go_size)⟩
             | true =>
               go_wp2_with fail
               refine (KV.out _ (S2.out.step hba).bel).mono ?_
               rintro e wv ⟨rfl, hbv⟩
               have kv := (Ka.out).step hbv
               obtain ⟨hlz, hllz, qz0, qz1, qz2, qz3, qz4, qz5, qz6, qz7, zz0, zz1, zz2, zz3, zz4, zz5, zz6, zz7⟩ := bf8 kv; (try simp at qz0 qz1 qz2 qz3 qz4 qz5 qz6 qz7); have Hkv := Lib.hid kv; clear kv
               cases sd with
               | false =>
                 go_wp2_with fail
                 go_meet
                 case rel => exact ⟨by rw [← HK.out]; simp [okB], by (repeat' first | (with_reducible first | exact .refl _ _ | assumption | apply balloc | apply Below.drew | apply bset | refine bstep ?_ ‹_› | refine bturn ?_ ‹_› ?_) | go_size)⟩
               | true =>
                 cases ng with
                 | false =>
                   go_wp2_with fail
                   go_meet
                   case rel => exact ⟨by rw [← HK.out]; simp [okB], by (repeat' first | (with_reducible first | exact .refl _ _ | assumption | apply balloc | apply Below.drew | apply bset | refine bstep ?_ ‹_› | refine bturn ?_ ‹_› ?_) | go_size)⟩
                 | true =>
                   go_wp2_with fail
                   go_meet
                   case rel => exact ⟨by rw [← HK.out]; simp [okB], by (repeat' first | (with_reducible first | exact .refl _ _ | assumption | apply balloc | apply Below.drew | apply bset | refine bstep ?_ ‹_› | refine bturn ?_ ‹_› ?_) | go_size)⟩
       · have h2b : (o == 2) = false := by simpa using h2
         cases re with
         | false =>
           by_cases h1 : o = 1
           · go_wp2_with fail
             go_meet
             case rel => exact ⟨by rw [← HK.out]; simp [okB, *], by (repeat' first | (with_reducible first | exact .refl _ _ | assumption | apply balloc | apply Below.drew | apply bset | refine bstep ?_ ‹_› | refine bturn ?_ ‹_› ?_) | go_size)⟩
           · go_wp2_with fail
             go_meet
             case rel => exact ⟨by rw [← HK.out]; simp [okB, *], by (repeat' first | (with_reducible first | exact .refl _ _ | assumption | apply balloc | apply Below.drew | apply bset | refine bstep ?_ ‹_› | refine bturn ?_ ‹_› ?_) | go_size)⟩
         | true =>
           by_cases h1 : o = 1
           · subst h1
             go_wp2_with fail
             refine (KV.out _ (S2.out).bel).mono ?_
             rintro e wv ⟨rfl, hbv⟩
             have kv := (K2.out).step hbv
             obtain ⟨hlz, hllz, qz0, qz1, qz2, qz3, qz4, qz5, qz6, qz7, zz0, zz1, zz2, zz3, zz4, zz5, zz6, zz7⟩ := bf8 kv; (try simp at qz0 qz1 qz2 qz3 qz4 qz5 qz6 qz7); have Hkv := Lib.hid kv; clear kv
             cases sd with
             | false =>
               go_wp2_with fail
               go_meet
               case rel => exact ⟨by rw [← HK.out]; simp [okB], by (repeat' first | (with_reducible first | exact .refl _ _ | assumption | apply balloc | apply Below.drew | apply bset | refine bstep ?_ ‹_› | refine bturn ?_ ‹_› ?_) | go_size)⟩
             | true =>
               cases ng with
               | false =>
                 go_wp2_with fail
                 go_meet
                 case rel => exact ⟨by rw [← HK.out]; simp [okB], by (repeat' first | (with_reducible first | exact .refl _ _ | assumption | apply balloc | apply Below.drew | apply bset | refine bstep ?_ ‹_› | refine bturn ?_ ‹_› ?_) | go_size)⟩
               | true =>
                 go_wp2_with fail
                 go_meet
                 case rel => exact ⟨by rw [← HK.out]; simp [okB], by (repeat' first | (with_reducible first | exact .refl _ _ | assumption | apply balloc | apply Below.drew | apply bset | refine bstep ?_ ‹_› | refine bturn ?_ ‹_› ?_) | go_size)⟩
           · have h1b : (o != 1) = true := by simpa using h1
             cases zv with
             | false =>
               go_wp2_with fail
               go_meet
               case rel => exact ⟨by rw [← HK.out]; simp [okB, *], by (repeat' first | (with_reducible first | exact .refl _ _ | assumption | apply balloc | apply Below.drew | apply bset | refine bstep ?_ ‹_› | refine bturn ?_ ‹_› ?_) | go_size)⟩
             | true =>
               go_wp2_with fail
               refine (KV.out _ (S2.out).bel).mono ?_
               rintro e wv ⟨rfl, hbv⟩
               have kv := (K2.out).step hbv
               obtain ⟨hlz, hllz, qz0, qz1, qz2, qz3, qz4, qz5, qz6, qz7, zz0, zz1, zz2, zz3, zz4, zz5, zz6, zz7⟩ := bf8 kv; (try simp at qz0 qz1 qz2 qz3 qz4 qz5 qz6 qz7); have Hkv := Lib.hid kv; clear kv
               cases sd with
               | false =>
                 go_wp2_with fail
                 go_meet
                 case rel => exact ⟨by rw [← HK.out]; simp [okB, *], by (repeat' first | (with_reducible first | exact .refl _ _ | assumption | apply balloc | apply Below.drew | apply bset | refine bstep ?_ ‹_› | refine bturn ?_ ‹_› ?_) | go_size)⟩
               | true =>
                 cases ng with
                 | false =>
                   go_wp2_with fail
                   go_meet
                   case rel => exact ⟨by rw [← HK.out]; simp [okB, *], by (repeat' first | (with_reducible first | exact .refl _ _ | assumption | apply balloc | apply Below.drew | apply bset | refine bstep ?_ ‹_› | refine bturn ?_ ‹_› ?_) | go_size)⟩
                 | true =>
                   go_wp2_with fail
                   go_meet
                   case rel => exact ⟨by rw [← HK.out]; simp [okB, *], by (repeat' first | (with_reducible first | exact .refl _ _ | assumption | apply balloc | apply Below.drew | apply bset | refine bstep ?_ ‹_› | refine bturn ?_ ‹_› ?_) | go_size)⟩
     case rest =>
       obtain ⟨rfl, hb4⟩ := hcut
       rename World => w4
       clear qx0 qx1 qx2 qx3 qx4 qx5 qx6 qx7 zx0 zx1 zx2 zx3 zx4 zx5 zx6 zx7 hlx hllx
       have S4 := Lib.hid (S2.out.step hb4)
       have G4 := Lib.hid (G2.out.bstep hb4)
       have k4 := K2.out.step hb4
       have C4 : Hid (CL w4 (w.heap.size + 1) (w.heap.size + 1 + 1) lb d) := Lib.hid ⟨keep1 hb4 C2.out.d, keep1 hb4 C2.out.p, C2.out.nd, C2.out.np⟩
       clear S2 G2 K2 C2 hb4
       clear HK
       cases K with
       | false =>
         rw [show (!false) = true from rfl]
         go_wp2_with fail
         go_returns
         exact ⟨by simp, by simpa using S4.out, G4.out⟩
       | true =>
         rw [show (!true) = false from rfl]
         obtain ⟨hlx, hllx, qx0, qx1, qx2, qx3, qx4, qx5, qx6, qx7, zx0, zx1, zx2, zx3, zx4, zx5, zx6, zx7⟩ := bf8 k4; (try simp at qx0 qx1 qx2 qx3 qx4 qx5 qx6 qx7); have Hk4 := Lib.hid k4; clear k4
         go_wp2_with fail
         have hcc : d ≤ 64 ∧ 0 ≤ l1 := by have := HC.out; simp only [Bool.and_eq_true, decide_eq_true_eq] at this; exact ⟨this.1, this.2.1⟩
         refine (KC.out hcc.1 hcc.2 _ _ _ S4.out C4.out).mono ?_
         rintro e w5 ⟨rfl, h5, g5⟩
         clear qx0 qx1 qx2 qx3 qx4 qx5 qx6 qx7 zx0 zx1 zx2 zx3 zx4 zx5 zx6 zx7 hlx hllx
         go_wp2_with fail
         go_returns
         exact ⟨by simp, by simpa using h5, G4.out.trans g5⟩
end
end Go.Proofs.YtapilekangmcoaaGreatDoor
namespace Go.Proofs.YtapilekangmcoaaGreatDoor
open Go.RowKit
/-- Its values' numbers are numbers of the machine. -/
inductive EV : Ex → Prop
 | mk (o : Int) (v : Vl) (s : Bs) (kids : List Ex) (hv : VOk v) (h : ∀ k ∈ kids, EV k) : EV (.mk o v s kids)
theorem bs_empty (s : Bs) : (bs s).toList.isEmpty = s.isEmpty := by rw [bs_toList]
theorem vlq_zero (v : Vl) : vlq v.k v.n v.s (bs v.t) v.m 0 0 0 ⟨#[]⟩ 0 = true ↔ v = zeroV := by
 rw [vlq_iff, bs_toList, show (⟨#[]⟩ : ByteArray).toList = [] from bs_toList []]
 obtain ⟨k, n, s, t, m⟩ := v
 simp [zeroV]
theorem zero_sound : vSound zeroV := .inl ⟨rfl, rfl, rfl, rfl, rfl⟩
open Classical in
theorem okB_eq (o : Int) (v : Vl) (s : Bs) : okB o (bs s).toList.isEmpty (wordB s) (vlq v.k v.n v.s (bs v.t) v.m 0 0 0 ⟨#[]⟩ 0) (decide (vSound v)) (decide (v.n < 0)) = okE o v s := by
 have main : okB o (bs s).toList.isEmpty (wordB s) (vlq v.k v.n v.s (bs v.t) v.m 0 0 0 ⟨#[]⟩ 0) (decide (vSound v)) (decide (v.n < 0)) = true ↔ okP o v s := by
   have hz : v = zeroV → vSound v ∧ ¬ v.n < 0 := fun h => by subst h; exact ⟨zero_sound, by decide⟩
   have hw : wordB s = true → s ≠ [] := fun h e => by
     obtain ⟨c, r, h2, _⟩ := word_parts h
     rw [e] at h2
     cases h2
   have he : (bs s).toList.isEmpty = true ↔ s = [] := by rw [bs_empty]; exact List.isEmpty_iff
   unfold okB okP
   by_cases h2 : o = 2
   · subst h2
     rw [if_pos rfl, if_pos rfl, if_neg (by decide)]
     simp only [Bool.and_eq_true, Bool.not_eq_true', decide_eq_true_eq, decide_eq_false_iff_not, vlq_zero, ← Bool.not_eq_true, he]
     exact ⟨fun h => ⟨h.1.1.1.2, h.1.1.2⟩, fun h => ⟨⟨⟨⟨hw h.1, h.1⟩, h.2⟩, (hz h.2).1⟩, (hz h.2).2⟩⟩
   · rw [if_neg h2, if_neg h2]
     by_cases h1 : o = 1
     · subst h1
       rw [if_pos rfl, if_pos rfl]
       simp only [Bool.and_eq_true, Bool.not_eq_true', decide_eq_true_eq, decide_eq_false_iff_not, he]
       exact ⟨fun h => ⟨h.1.1, h.1.2, by omega⟩, fun h => ⟨⟨h.1, h.2.1⟩, by omega⟩⟩
     · rw [if_neg h1, if_neg h1]
       simp only [Bool.and_eq_true, Bool.not_eq_true', decide_eq_true_eq, decide_eq_false_iff_not, vlq_zero, he]
       exact ⟨fun h => ⟨h.1.1.1, h.1.1.2⟩, fun h => ⟨⟨⟨h.1, h.2⟩, (hz h.2).1⟩, (hz h.2).2⟩⟩
 cases hb : okE o v s with
 | true => exact main.2 (okE_iff.1 hb)
 | false =>
   cases hc : okB o (bs s).toList.isEmpty (wordB s) (vlq v.k v.n v.s (bs v.t) v.m 0 0 0 ⟨#[]⟩ 0) (decide (vSound v)) (decide (v.n < 0)) with
   | false => rfl
   | true => rw [okE_iff.2 (main.1 hc)] at hb; cases hb
theorem snd_all (m : Int) (w0 : World) (hw : OKW m w0) : ∀ x, EV x → SndC w0 x := by
 intro x
 induction x using ex_ind with
 | h o v s kids ih =>
   intro hev cs d l lb w hx hs hd hl0 hl1
   obtain ⟨A, c, f, rfl, hn, hxk, hck⟩ := hx.inv
   cases hev with
   | mk _ _ _ _ hv hk =>
     have hwr : IntKind.i64.wrap (l - 1) = l - 1 := IntWalk.i64_in _ (by omega)
     have H := snd_node o v.k v.n v.s v.m (bs v.t) (bs s) A kids.length c d lb l (l - 1) (kidsN o) w0 w (sndL kids (d + 1) (l - 1)) _ _ _ _ _ hs hwr rfl hd rfl rfl rfl
       (Lib.hid fun W => word_any (bs s) s rfl (wordB s) rfl W)
       (Lib.hid fun W hb => vsd_any v hv m W (hw.step hb))
       (Lib.hid fun h1 h2 D P W hW hC => scont_walk A kids.length c D P lb (sndL kids (d + 1) (l - 1)) w0 W (Lib.hid fun W' e => by
         subst e
         exact sidx_walk kids A c D P lb (d + 1) d (by rw [IntWalk.i64_in _ (by omega)]; omega) (by omega) f w0 hn hxk hck (fun k hkm => ih k hkm (hk k hkm)) (l - 1) h2 (by omega) W' hW hC))
     rw [okB_eq] at H
     refine H.mono ?_
     rintro e w' ⟨rfl, h1, h2⟩
     have E : sndE (.mk o v s kids) d l = if ((decide (d ≤ 64) && (decide (0 ≤ l - 1) && decide ((kids.length : Int) = kidsN o))) && okE o v s) = true then sndL kids (d + 1) (l - 1) else (false, l - 1) := by
       rw [sndE]
       simp only [Bool.and_eq_true, decide_eq_true_eq, and_assoc]
     rw [E]
     by_cases hc : ((decide (d ≤ 64) && (decide (0 ≤ l - 1) && decide ((kids.length : Int) = kidsN o))) && okE o v s) = true
     · rw [if_pos hc] at h1 ⊢
       refine ⟨?_, h1, h2⟩
       rw [← Bool.and_assoc, hc, Bool.true_and]
     · rw [if_neg hc] at h1 ⊢
       refine ⟨?_, h1, h2⟩
       rw [← Bool.and_assoc, Bool.not_eq_true _ |>.mp hc, Bool.false_and]
set_option maxHeartbeats 4000000 in
theorem sound_walk (o k n s m : Int) (q r : ByteArray) (A : Option Addr) (l c : Nat) (b : Bool) (w : World)
   (KS : Hid (∀ W lb, SB w W lb 4096 → Calls Tryz.prog 52 #[.agg #[.int .i64 o, .int .i64 k, .int .i64 n, .int .i64 s, .string q, .int .i64 m, .string r, .slice A l c], .int .i64 1, .pointer (some ⟨lb, 0, none⟩)] W fun e w' => e = .returned (.bool b) ∧ Below w.heap.size w w')) :
   Calls Tryz.prog 29 #[.agg #[.int .i64 o, .int .i64 k, .int .i64 n, .int .i64 s, .string q, .int .i64 m, .string r, .slice A l c]] w fun e w' => e = .returned (.bool b) ∧ Below w.heap.size w w' := by
 go_enter Tryz.func29, Tryz.ntmps29
 go_wp2_with fail
 refine (KS.out _ _ ⟨by (repeat' first | (with_reducible first | exact .refl _ _ | assumption | apply balloc | apply Below.drew | apply bset | refine bstep ?_ ‹_› | refine bturn ?_ ‹_› ?_) | go_size), Blk.new' _ _ _ (by simp), by omega⟩).mono ?_
 rintro e w1 ⟨rfl, hb⟩
 go_wp2_with fail
 go_returns
 exact ⟨rfl, hb⟩
theorem sound_any' (x : Ex) (cs : Array Value) (m : Int) (w : World) (hw : OKW m w) (hx : XM (fun _ => True) w x cs) (hv : EV x) :
   Calls Tryz.prog 29 #[.agg cs] w fun e w' => e = .returned (.bool (soundX x)) ∧ Below w.heap.size w w' := by
 obtain ⟨A, c, hcs⟩ := hx.get
 subst hcs
 refine sound_walk _ _ _ _ _ _ _ _ _ _ _ w (Lib.hid fun W lb hs => ?_)
 refine (snd_all m w hw x hv _ 1 4096 lb W hx hs (by decide) (by decide) (by decide)).mono ?_
 rintro e w' ⟨rfl, h1, _⟩
 exact ⟨rfl, h1.bel⟩
end Go.Proofs.YtapilekangmcoaaGreatDoor
namespace Go.Proofs.YtapilekangmcoaaGreatDoor
open Go.Proofs.YtapilekangmcoaaGreatDoor.Dq
open Classical in
/-- May it be a value? -/
noncomputable def sd (v : Vl) : Bool := decide (vSound v)
theorem sd_iff (v : Vl) : sd v = true ↔ vSound v := by
 classical
 unfold sd
 exact decide_eq_true_iff
/-- A truth. -/
def truV (b : Bool) : Vl := ⟨3, 0, 0, [], if b then 1 else 0⟩
theorem tru_sound (b : Bool) : vSound (truV b) := by
 refine .inr (.inr (.inr (.inl ⟨rfl, rfl, rfl, rfl, ?_⟩)))
 cases b with
 | true => exact .inr rfl
 | false => exact .inl rfl
theorem vEq_self (v : Vl) : vEq v v = true := vEq_iff.2 rfl
theorem vEq_no {v u : Vl} (h : ¬ v = u) : vEq v u = false := by
 cases hb : vEq v u with
 | false => rfl
 | true => exact absurd (vEq_iff.1 hb) h
theorem vEq_comm (v u : Vl) : vEq v u = vEq u v := by
 by_cases h : v = u
 · rw [h]
 · rw [vEq_no h, vEq_no fun e => h e.symm]
theorem tru_ne : ¬ truV true = truV false := by
 intro h
 injection h with _ _ _ _ h
 exact absurd h (by decide)
theorem tru_zero (b : Bool) : ¬ truV b = zeroV := by
 intro h
 injection h with h
 exact absurd h (by decide)
/-- How texts stand. -/
def cmpT (a b : Bs) : Int := if a < b then -1 else if b < a then 1 else 0
/-- How two values stand. -/
def ordC (a b : Vl) : Int :=
 if a.k = b.k then
   if a.k = 1 then cmpS (unitsS a.n a.s) (unitsS b.n b.s)
   else if cmpT a.t b.t = 0 then cmpS a.m b.m else cmpT a.t b.t
 else cmpS a.k b.k
noncomputable def eqC (a b : Vl) : Vl := if (sd a && sd b) = true then (if a.k = 0 ∨ b.k = 0 ∨ a.k = b.k then truV (vEq a b) else zeroV) else zeroV
noncomputable def lessC (a b : Vl) : Vl := if (sd a && sd b) = true ∧ a.k = b.k ∧ ¬ a.k = 0 ∧ ¬ a.k = 3 then truV (decide (ordC a b < 0)) else zeroV
def notC (v : Vl) : Vl := if vEq v (truV true) = true then truV false else if vEq v (truV false) = true then truV true else zeroV
/-- and, or, of two. -/
def all2 (want : Bool) (a b : Vl) : Vl :=
 if vEq a (truV !want) = true then a
 else if vEq a (truV want) = true then (if vEq b (truV !want) = true then b else if vEq b (truV want) = true then truV want else zeroV)
 else if vEq b (truV !want) = true then b else zeroV
def dV (r : Res) : Vl := if r.e = 0 then ⟨1, r.n, r.s, [], 0⟩ else zeroV
def reckS (o : Int) (a b : Vl) : Vl :=
 if a.k = 1 ∧ b.k = 1 then
   if o = 5 then dV (addS a.n a.s (negS b.n b.s).n (negS b.n b.s).s)
   else if o = 4 then dV (addS a.n a.s b.n b.s)
   else if o = 6 then dV (mulS a.n a.s b.n b.s)
   else dV (divS a.n a.s b.n b.s)
 else zeroV
noncomputable def binS (o : Int) (a b : Vl) : Vl :=
 if o = 8 then eqC a b
 else if o = 9 then notC (eqC a b)
 else if o = 10 then lessC a b
 else if o = 12 then lessC b a
 else if o = 11 then notC (lessC b a)
 else if o = 13 then notC (lessC a b)
 else if o = 14 then all2 true a b
 else if o = 15 then all2 false a b
 else reckS o a b
/-- What a name is. -/
def lookL : List (Bs × Vl) → Bs → Vl
 | [], _ => zeroV
 | b :: r, s => if b.1 = s then b.2 else lookL r s
/-- What an expression is. -/
noncomputable def evalE (L : List (Bs × Vl)) : Ex → Vl
 | .mk o v s [] => if o = 1 then v else lookL L s
 | .mk o _ _ [a] => if o = 3 then reckS 5 ⟨1, 0, 0, [], 0⟩ (evalE L a) else notC (evalE L a)
 | .mk o _ _ [a, b] => binS o (evalE L a) (evalE L b)
 | .mk _ _ _ (a :: b :: c :: _) => if vEq (evalE L a) (truV true) = true then evalE L b else evalE L c
/-- Is a name bound? -/
def boundB (L : List (Bs × Vl)) (n : Bs) : Bool := L.any fun b => b.1 == n
noncomputable def evalO (L : List (Bs × Vl)) (x : Ex) : Vl × Int :=
 if (soundX x && L.all fun b => sd b.2) = true then (if ((nmsE x).all fun n => boundB L n) = true then (evalE L x, 0) else (zeroV, 7)) else (zeroV, 2)
/-! What comes out may be a value. -/
theorem short_nd : ∀ (k : Nat) (n : Int), (short k n).2 = 0 ∨ ¬ (short k n).1 % 10 = 0
 | 0, _ => .inl rfl
 | k + 1, n => by
   by_cases h : n % 10 = 0
   · rw [short_go h]
     exact short_nd k _
   · rw [short_stop (.inr h)]
     exact .inr h
theorem dec_sd {k : Nat} {X : Int} {b : Bool} (hk : k ≤ 6) (hX : 0 ≤ X) (h : (decS k X b).e = 0) : soundS (decS k X b).n (decS k X b).s = true := by
 have hbd := short_bd k X hX
 have hnd := short_nd k X
 unfold decS at h ⊢
 split at h
 · cases h
 · rename_i hb
   rw [if_neg hb, sound_iff]
   apply decide_eq_true
   rw [big_def] at hb ⊢
   dsimp only
   cases b with
   | true => simp only [if_true]; omega
   | false => simp only [Bool.false_eq_true, if_false]; omega
theorem dV_sound {r : Res} (h : r.e = 0 → soundS r.n r.s = true) : vSound (dV r) := by
 unfold dV
 split
 · exact .inr (.inl ⟨rfl, h (by assumption), rfl, rfl⟩)
 · exact zero_sound
theorem add_sd (n s n2 s2 : Int) (h : (addS n s n2 s2).e = 0) : soundS (addS n s n2 s2).n (addS n s n2 s2).s = true := by
 unfold addS at h ⊢
 split at h
 · rename_i hc
   rw [if_pos hc]
   exact dec_sd (by decide) (mag_nn _) h
 · cases h
theorem mul_sd (n s n2 s2 : Int) (h : (mulS n s n2 s2).e = 0) : soundS (mulS n s n2 s2).n (mulS n s n2 s2).s = true := by
 unfold mulS at h ⊢
 split at h
 · rename_i hc
   rw [if_pos hc]
   split at h
   · cases h
   · rename_i hd
     rw [if_neg hd]
     exact dec_sd (by omega) (Int.natCast_nonneg _) h
 · cases h
theorem div_sd (n s n2 s2 : Int) (h : (divS n s n2 s2).e = 0) : soundS (divS n s n2 s2).n (divS n s n2 s2).s = true := by
 unfold divS at h ⊢
 split at h
 · rename_i hc
   rw [if_pos hc]
   split at h
   · cases h
   · rename_i hd
     rw [if_neg hd]
     exact dec_sd (by decide) (Int.natCast_nonneg _) h
 · cases h
theorem reck_sound (o : Int) (a b : Vl) : vSound (reckS o a b) := by
 unfold reckS
 split
 · split
   · exact dV_sound (add_sd _ _ _ _)
   · split
     · exact dV_sound (add_sd _ _ _ _)
     · split
       · exact dV_sound (mul_sd _ _ _ _)
       · exact dV_sound (div_sd _ _ _ _)
 · exact zero_sound
theorem eq_sound (a b : Vl) : vSound (eqC a b) := by
 unfold eqC
 split
 · split
   · exact tru_sound _
   · exact zero_sound
 · exact zero_sound
theorem less_sound (a b : Vl) : vSound (lessC a b) := by
 unfold lessC
 split
 · exact tru_sound _
 · exact zero_sound
theorem not_sound (v : Vl) : vSound (notC v) := by
 unfold notC
 split
 · exact tru_sound _
 · split
   · exact tru_sound _
   · exact zero_sound
theorem all2_sound (want : Bool) (a b : Vl) : vSound (all2 want a b) := by
 unfold all2
 split
 · rename_i h
   rw [vEq_iff.1 h]
   exact tru_sound _
 · split
   · split
     · rename_i h
       rw [vEq_iff.1 h]
       exact tru_sound _
     · split
       · exact tru_sound _
       · exact zero_sound
   · split
     · rename_i h
       rw [vEq_iff.1 h]
       exact tru_sound _
     · exact zero_sound
theorem bin_sound (o : Int) (a b : Vl) : vSound (binS o a b) := by
 unfold binS
 repeat' split
 all_goals first | exact eq_sound _ _ | exact not_sound _ | exact less_sound _ _ | exact all2_sound _ _ _ | exact reck_sound _ _ _
theorem look_sound {L : List (Bs × Vl)} (h : ∀ b ∈ L, vSound b.2) (s : Bs) : vSound (lookL L s) := by
 induction L with
 | nil => exact zero_sound
 | cons b r ih =>
   unfold lookL
   split
   · exact h b (by simp)
   · exact ih fun c hc => h c (by simp [hc])
theorem eval_sound {L : List (Bs × Vl)} (h : ∀ b ∈ L, vSound b.2) {x : Ex} (hx : ES wordB x) : vSound (evalE L x) := by
 induction hx with
 | val v hv h0 => simp only [evalE, if_true]; exact hv
 | name s hs => simp only [evalE, show ¬ (2 : Int) = 1 by decide, if_false]; exact look_sound h s
 | neg a ha ih => simp only [evalE, if_true]; exact reck_sound _ _ _
 | not a ha ih => simp only [evalE, show ¬ (16 : Int) = 3 by decide, if_false]; exact not_sound _
 | bin o a b h4 h15 ha hb iha ihb => simp only [evalE]; exact bin_sound _ _ _
 | ife a b c ha hb hc iha ihb ihc =>
   simp only [evalE]
   split
   · exact ihb
   · exact ihc
/-! It hangs on the names in it alone. -/
theorem bound_iff {L : List (Bs × Vl)} {n : Bs} : boundB L n = true ↔ ∃ b ∈ L, b.1 = n := by unfold boundB; simp
theorem look_more {L M : List (Bs × Vl)} {n : Bs} (h : boundB L n = true) : lookL (L ++ M) n = lookL L n := by
 induction L with
 | nil => simp [boundB] at h
 | cons b r ih =>
   show lookL (b :: (r ++ M)) n = _
   unfold lookL
   by_cases hb : b.1 = n
   · rw [if_pos hb, if_pos hb]
   · rw [if_neg hb, if_neg hb]
     refine ih ?_
     obtain ⟨c, hc, hn⟩ := bound_iff.1 h
     rcases List.mem_cons.1 hc with rfl | hc
     · exact absurd hn hb
     · exact bound_iff.2 ⟨c, hc, hn⟩
theorem eval_more {L M : List (Bs × Vl)} {x : Ex} (hx : ES wordB x) (h : ∀ n ∈ nmsE x, boundB L n = true) : evalE (L ++ M) x = evalE L x := by
 induction hx with
 | val v hv h0 => simp only [evalE, if_true]
 | name s hs => simp only [evalE, show ¬ (2 : Int) = 1 by decide, if_false]; exact look_more (h s (by simp [nmsE, nmsL]))
 | neg a ha ih => simp only [evalE, if_true]; rw [ih fun n hn => h n (by simp [nmsE, nmsL, hn])]
 | not a ha ih => simp only [evalE, show ¬ (16 : Int) = 3 by decide, if_false]; rw [ih fun n hn => h n (by simp [nmsE, nmsL, hn])]
 | bin o a b h4 h15 ha hb iha ihb =>
   simp only [evalE]
   rw [iha fun n hn => h n (by simp [nmsE, nmsL, hn]), ihb fun n hn => h n (by simp [nmsE, nmsL, hn])]
 | ife a b c ha hb hc iha ihb ihc =>
   simp only [evalE]
   rw [iha fun n hn => h n (by simp [nmsE, nmsL, hn]), ihb fun n hn => h n (by simp [nmsE, nmsL, hn]), ihc fun n hn => h n (by simp [nmsE, nmsL, hn])]
/-- One more name changes nothing. -/
theorem evalO_more {L : List (Bs × Vl)} {x : Ex} {b : Bs × Vl} (hb : vSound b.2) (h : (evalO L x).2 = 0) : evalO (L ++ [b]) x = evalO L x ∧ vSound (evalO L x).1 := by
 unfold evalO at h ⊢
 split at h
 · rename_i h1
   rw [if_pos h1]
   rw [Bool.and_eq_true, List.all_eq_true] at h1
   split at h
   · rename_i h2
     rw [if_pos h2]
     rw [List.all_eq_true] at h2
     have e1 : (soundX x && (L ++ [b]).all fun b => sd b.2) = true := by
       rw [Bool.and_eq_true, List.all_eq_true]
       refine ⟨h1.1, fun c hc => ?_⟩
       rcases List.mem_append.1 hc with hc | hc
       · exact h1.2 c hc
       · rw [List.mem_singleton.1 hc]
         exact (sd_iff _).2 hb
     have e2 : ((nmsE x).all fun n => boundB (L ++ [b]) n) = true := by
       rw [List.all_eq_true]
       intro n hn
       obtain ⟨c, hc, hcn⟩ := bound_iff.1 (h2 n hn)
       exact bound_iff.2 ⟨c, by simp [hc], hcn⟩
     have hES := ((soundX_iff x).1 h1.1).1
     rw [if_pos e1, if_pos e2, eval_more hES h2]
     exact ⟨rfl, eval_sound (fun c hc => (sd_iff _).1 (h1.2 c hc)) hES⟩
   · cases h
 · cases h
/-! Which of two is less. -/
theorem units_inj {n s n2 s2 : Int} (h1 : soundS n s = true) (h2 : soundS n2 s2 = true) (h : unitsS n s = unitsS n2 s2) : n = n2 ∧ s = s2 := by
 have e1 := dec_units h1
 have e2 := dec_units h2
 rw [h, e2] at e1
 injection e1 with e1 e3
 exact ⟨e1.symm, e3.symm⟩
theorem cmpT_self (a : Bs) : cmpT a a = 0 := by unfold cmpT; rw [if_neg (List.lt_irrefl a), if_neg (List.lt_irrefl a)]
theorem cmpT_zero {a b : Bs} (h : cmpT a b = 0) : a = b := by
 unfold cmpT at h
 split at h
 · cases h
 · rename_i h1
   split at h
   · cases h
   · rename_i h2
     exact List.le_antisymm (List.not_lt.1 h2) (List.not_lt.1 h1)
theorem cmpT_turn (a b : Bs) : cmpT b a = -cmpT a b := by
 unfold cmpT
 by_cases h1 : a < b
 · have h2 : ¬ b < a := List.lt_asymm h1
   rw [if_neg h2, if_pos h1, if_pos h1]
   rfl
 · by_cases h2 : b < a
   · rw [if_pos h2, if_neg h1, if_pos h2]
   · rw [if_neg h1, if_neg h2, if_neg h2, if_neg h1]
     rfl
theorem cmpS_turn (a b : Int) : cmpS b a = -cmpS a b := by unfold cmpS; (repeat' split) <;> omega
theorem cmpS_zero {a b : Int} (h : cmpS a b = 0) : a = b := by
 unfold cmpS at h
 split at h
 · omega
 · split at h <;> omega
theorem ord_turn (a b : Vl) : ordC b a = -ordC a b := by
 unfold ordC
 by_cases h : a.k = b.k
 · rw [if_pos h, if_pos h.symm]
   by_cases h1 : a.k = 1
   · rw [if_pos h1, if_pos (by omega), cmpS_turn]
   · rw [if_neg h1, if_neg (by omega)]
     have e := cmpT_turn a.t b.t
     by_cases h2 : cmpT a.t b.t = 0
     · rw [if_pos h2, if_pos (by omega), cmpS_turn]
     · rw [if_neg h2, if_neg (by omega), e]
 · rw [if_neg h, if_neg (fun e => h e.symm), cmpS_turn]
theorem ord_self (a : Vl) : ordC a a = 0 := by have := ord_turn a a; omega
/-- Two of one kind that stand alike are one. -/
theorem ord_zero {a b : Vl} (ha : vSound a) (hb : vSound b) (hk : a.k = b.k) (h0 : ¬ a.k = 0) (h : ordC a b = 0) : a = b := by
 obtain ⟨ak, an, as_, at_, am⟩ := a
 obtain ⟨bk, bn, bs_, bt, bm⟩ := b
 unfold ordC at h
 simp only at hk h0 h ha hb
 subst hk
 rw [if_pos rfl] at h
 unfold vSound at ha hb
 simp only at ha hb
 by_cases h1 : ak = 1
 · subst h1
   rw [if_pos rfl] at h
   have e := cmpS_zero h
   rcases ha with ha | ha | ha | ha | ha
   case inr.inl =>
     rcases hb with hb | hb | hb | hb | hb
     case inr.inl =>
       obtain ⟨rfl, rfl⟩ := units_inj ha.2.1 hb.2.1 e
       rw [ha.2.2.1, ha.2.2.2, hb.2.2.1, hb.2.2.2]
     all_goals exact absurd hb.1 (by decide)
   all_goals exact absurd ha.1 (by decide)
 · rw [if_neg h1] at h
   have hn : an = bn ∧ as_ = bs_ := by
     have a0 : an = 0 ∧ as_ = 0 := by
       rcases ha with ha | ha | ha | ha | ha
       · exact absurd ha.1 h0
       · exact absurd ha.1 h1
       all_goals exact ⟨ha.2.1, ha.2.2.1⟩
     have b0 : bn = 0 ∧ bs_ = 0 := by
       rcases hb with hb | hb | hb | hb | hb
       · exact absurd hb.1 h0
       · exact absurd hb.1 h1
       all_goals exact ⟨hb.2.1, hb.2.2.1⟩
     rw [a0.1, a0.2, b0.1, b0.2]
     exact ⟨rfl, rfl⟩
   obtain ⟨rfl, rfl⟩ := hn
   by_cases h2 : cmpT at_ bt = 0
   · rw [if_pos h2] at h
     rw [cmpT_zero h2, cmpS_zero h]
   · rw [if_neg h2] at h
     exact absurd h h2
theorem ord_ways (a b : Vl) : ordC a b = -1 ∨ ordC a b = 0 ∨ ordC a b = 1 := by
 unfold ordC cmpS cmpT
 (repeat' split) <;> simp
theorem eqC_turn (a b : Vl) : eqC b a = eqC a b := by
 unfold eqC
 rw [Bool.and_comm (sd b), vEq_comm b a]
 split
 · by_cases h : a.k = 0 ∨ b.k = 0 ∨ a.k = b.k
   · rw [if_pos h, if_pos (by omega)]
   · rw [if_neg h, if_neg (by omega)]
 · rfl
theorem vEq_ft : vEq (truV false) (truV true) = false := vEq_no fun e => tru_ne e.symm
theorem vEq_z (b : Bool) : vEq zeroV (truV b) = false := vEq_no fun e => tru_zero b e.symm
theorem notC_true : notC (truV true) = truV false := by unfold notC; rw [vEq_self, if_pos rfl]
theorem notC_false : notC (truV false) = truV true := by unfold notC; rw [vEq_ft, if_neg (by decide), vEq_self, if_pos rfl]
theorem notC_zero : notC zeroV = zeroV := by unfold notC; rw [vEq_z, vEq_z, if_neg (by decide), if_neg (by decide)]
theorem not_not {v : Vl} (h : v = zeroV ∨ ∃ b, v = truV b) : notC (notC v) = v := by
 rcases h with rfl | ⟨b, rfl⟩
 · rw [notC_zero, notC_zero]
 · cases b with
   | true => rw [notC_true, notC_false]
   | false => rw [notC_false, notC_true]
theorem less_way (a b : Vl) : lessC a b = zeroV ∨ ∃ c, lessC a b = truV c := by
 unfold lessC
 split
 · exact .inr ⟨_, rfl⟩
 · exact .inl rfl
/-- How many of three are true. -/
noncomputable def trues (a b c : Vl) : Nat := (if vEq a (truV true) = true then 1 else 0) + (if vEq b (truV true) = true then 1 else 0) + (if vEq c (truV true) = true then 1 else 0)
theorem vEq_tru (b : Bool) : vEq (truV b) (truV true) = b := by
 cases b with
 | true => exact vEq_self _
 | false => exact vEq_no fun e => tru_ne e.symm
theorem vEq_ztru : vEq zeroV (truV true) = false := vEq_no fun e => tru_zero true e.symm
/-- Of two numbers, texts or days just one of three holds; of others the values do not tell. -/
theorem three (a b : Vl) : (¬ (sd a && sd b) = true → trues (lessC a b) (eqC a b) (lessC b a) = 0) ∧
   ((sd a && sd b) = true → (a.k = b.k ∧ ¬ a.k = 3 ∧ ¬ a.k = 0 → trues (lessC a b) (eqC a b) (lessC b a) = 1) ∧
     (¬ (a.k = b.k ∧ ¬ a.k = 3 ∧ ¬ a.k = 0) → trues (lessC a b) (eqC a b) (lessC b a) ≤ 1 ∧ (trues (lessC a b) (eqC a b) (lessC b a) = 1 ↔ a = b))) := by
 refine ⟨fun h => ?_, fun h => ⟨fun ⟨h1, h2, h3⟩ => ?_, fun h1 => ?_⟩⟩
 · have h' : ¬ (sd b && sd a) = true := by rw [Bool.and_comm]; exact h
   have e1 : lessC a b = zeroV := by unfold lessC; rw [if_neg fun g => h g.1]
   have e2 : eqC a b = zeroV := by unfold eqC; rw [if_neg h]
   have e3 : lessC b a = zeroV := by unfold lessC; rw [if_neg fun g => h' g.1]
   unfold trues
   rw [e1, e2, e3, vEq_ztru]
   rfl
 · have h' : (sd b && sd a) = true := by rw [Bool.and_comm]; exact h
   have e1 : lessC a b = truV (decide (ordC a b < 0)) := by unfold lessC; rw [if_pos ⟨h, h1, h3, h2⟩]
   have e2 : eqC a b = truV (vEq a b) := by unfold eqC; rw [if_pos h, if_pos (.inr (.inr h1))]
   have e3 : lessC b a = truV (decide (ordC b a < 0)) := by unfold lessC; rw [if_pos ⟨h', h1.symm, by omega, by omega⟩]
   rw [Bool.and_eq_true] at h
   unfold trues
   rw [e1, e2, e3, vEq_tru, vEq_tru, vEq_tru]
   have ht := ord_turn a b
   by_cases he : ordC a b = 0
   · obtain rfl := ord_zero ((sd_iff a).1 h.1) ((sd_iff b).1 h.2) h1 h3 he
     rw [vEq_self, decide_eq_false (by omega)]
     rfl
   · rw [vEq_no fun e => by subst e; exact he (ord_self a)]
     by_cases hl : ordC a b < 0
     · rw [decide_eq_true hl, decide_eq_false (by omega)]
       rfl
     · rw [decide_eq_false hl, decide_eq_true (by omega)]
       rfl
 · have e1 : lessC a b = zeroV := by unfold lessC; rw [if_neg fun g => h1 ⟨g.2.1, g.2.2.2, g.2.2.1⟩]
   have e2 : lessC b a = zeroV := by unfold lessC; rw [if_neg fun g => h1 ⟨g.2.1.symm, by have := g.2; omega, by have := g.2; omega⟩]
   have e3 : trues (lessC a b) (eqC a b) (lessC b a) = if vEq (eqC a b) (truV true) = true then 1 else 0 := by
     unfold trues
     rw [e1, e2, vEq_ztru]
     simp
   rw [e3]
   by_cases hc : a.k = 0 ∨ b.k = 0 ∨ a.k = b.k
   · have e4 : eqC a b = truV (vEq a b) := by unfold eqC; rw [if_pos h, if_pos hc]
     rw [e4, vEq_tru]
     by_cases he : a = b
     · subst he
       rw [vEq_self]
       simp
     · rw [vEq_no he]
       simp [he]
   · have e4 : eqC a b = zeroV := by unfold eqC; rw [if_pos h, if_neg hc]
     have he : ¬ a = b := fun e => hc (.inr (.inr (by rw [e])))
     rw [e4, vEq_ztru]
     simp [he]
end Go.Proofs.YtapilekangmcoaaGreatDoor
namespace Go.Proofs.YtapilekangmcoaaGreatDoor
open Go.RowKit Go.Shelf
/-- A binding's cells. -/
def clB (b : Bs × Vl) : List Value := [.string (bs b.1), .int .i64 b.2.k, .int .i64 b.2.n, .int .i64 b.2.s, .string (bs b.2.t), .int .i64 b.2.m]
theorem clB_len (b : Bs × Vl) : (clB b).length = 6 := rfl
theorem rmb_get {w : World} {A : Option Addr} {L : List (Bs × Vl)} (h : RM clB 6 w A L) {k : Nat} {b : Bs × Vl} (hb : L[k]? = some b) : ∃ g o, A = some ⟨g, o, none⟩ ∧ w.cell? ⟨g, o + k * 6, none⟩ = some (.string (bs b.1)) ∧ w.cell? ⟨g, o + k * 6 + 1, none⟩ = some (.int .i64 b.2.k) ∧ w.cell? ⟨g, o + k * 6 + 2, none⟩ = some (.int .i64 b.2.n) ∧ w.cell? ⟨g, o + k * 6 + 3, none⟩ = some (.int .i64 b.2.s) ∧ w.cell? ⟨g, o + k * 6 + 4, none⟩ = some (.string (bs b.2.t)) ∧ w.cell? ⟨g, o + k * 6 + 5, none⟩ = some (.int .i64 b.2.m) := by
 obtain ⟨g, o, e, hc⟩ := h k b hb
 exact ⟨g, o, e, hc 0 _ rfl, hc 1 _ rfl, hc 2 _ rfl, hc 3 _ rfl, hc 4 _ rfl, hc 5 _ rfl⟩
/-- Where the first one stands that is so. -/
def idxS (P : Bs × Vl → Bool) : List (Bs × Vl) → Int
 | [] => -1
 | b :: r => if P b = true then 0 else if idxS P r < 0 then -1 else idxS P r + 1
theorem idx_hit {P : Bs × Vl → Bool} : ∀ {L : List (Bs × Vl)} {k : Nat} {b : Bs × Vl}, L[k]? = some b → P b = true → (∀ (j : Nat) t, j < k → L[j]? = some t → P t = false) → idxS P L = (k : Int)
 | [], k, b, h, _, _ => by simp at h
 | c :: r, 0, b, h, hb, _ => by
   obtain rfl : c = b := by simpa using h
   unfold idxS
   rw [if_pos hb]
   rfl
 | c :: r, k + 1, b, h, hb, hj => by
   have h0 := hj 0 c (by omega) rfl
   have h1 := idx_hit (P := P) (L := r) (k := k) (b := b) (by simpa using h) hb (fun j t hjk ht => hj (j + 1) t (by omega) (by simpa using ht))
   unfold idxS
   rw [if_neg (by rw [h0]; decide), h1, if_neg (by omega)]
   omega
theorem idx_no {P : Bs × Vl → Bool} : ∀ {L : List (Bs × Vl)}, (∀ b ∈ L, P b = false) → idxS P L = -1
 | [], _ => rfl
 | c :: r, h => by
   unfold idxS
   rw [if_neg (by rw [h c (by simp)]; decide), idx_no (P := P) (L := r) fun b hb => h b (by simp [hb])]
   rfl
theorem idx_any {P : Bs × Vl → Bool} : ∀ (L : List (Bs × Vl)), decide (0 ≤ idxS P L) = L.any P
 | [] => rfl
 | c :: r => by
   have ih := idx_any (P := P) r
   unfold idxS
   rw [List.any_cons, ← ih]
   cases hc : P c with
   | true => rw [if_pos rfl]; simp
   | false =>
     rw [if_neg (by decide)]
     by_cases h : idxS P r < 0
     · rw [if_pos h, decide_eq_false (by omega), decide_eq_false (by omega)]
       rfl
     · rw [if_neg h, decide_eq_true (by omega), decide_eq_true (by omega)]
       rfl
/-- A name that is bound is found. -/
theorem look_at : ∀ {L : List (Bs × Vl)} {s : Bs}, boundB L s = true → ∃ k b, idxS (fun b => b.1 == s) L = (k : Nat) ∧ L[k]? = some b ∧ lookL L s = b.2
 | [], s, h => by simp [boundB] at h
 | c :: r, s, h => by
   by_cases hc : c.1 = s
   · refine ⟨0, c, ?_, rfl, ?_⟩
     · unfold idxS
       rw [if_pos (by simpa using hc)]
       rfl
     · unfold lookL
       rw [if_pos hc]
   · obtain ⟨b, hb, hn⟩ := bound_iff.1 h
     have hr : boundB r s = true := by
       rcases List.mem_cons.1 hb with rfl | hb
       · exact absurd hn hc
       · exact bound_iff.2 ⟨b, hb, hn⟩
     obtain ⟨k, b, h1, h2, h3⟩ := look_at hr
     refine ⟨k + 1, b, ?_, by simpa using h2, ?_⟩
     · unfold idxS
       rw [if_neg (by simpa using hc), h1, if_neg (by omega)]
       omega
     · unfold lookL
       rw [if_neg hc]
       exact h3
theorem bidx_ev (P : Bs × Vl → Bool) (D : Nat) (A : Option Addr) (L : List (Bs × Vl)) (c : Nat) (hL : (L.length : Int) ≤ 9223372036854775807) (w : World) (hM : RM clB 6 w A L)
   (KP : Hid (∀ b ∈ L, ∀ W, Below w.heap.size w W → Calls Tryz.prog 57 #[.agg #[.string (bs b.1), .int .i64 b.2.k, .int .i64 b.2.n, .int .i64 b.2.s, .string (bs b.2.t), .int .i64 b.2.m], .pointer (some ⟨D, 0, none⟩)] W fun e w' => e = .returned (.bool (P b)) ∧ Below W.heap.size W w')) :
   Calls Tryz.prog 56 #[.slice A L.length c, .func (.func 57) #[] #[.pointer (some ⟨D, 0, none⟩)]] w fun e w' => e = .returned (.int .i64 (idxS P L)) ∧ Below w.heap.size w w' := by
 have HM := Lib.hid hM
 obtain ⟨R, hR⟩ : ∃ R, idxS P L = R := ⟨_, rfl⟩
 have HR := Lib.hid hR
 rw [hR]
 clear hM hR
 go_enter Tryz.func56, Tryz.ntmps56
 go_wp2_with fail
 go_loopw [8] (fun i wr => ∃ k : Nat, k ≤ L.length ∧ i = .int .i64 (k : Int) ∧ Below w.heap.size w wr ∧ Hid (∀ (j : Nat) (t : Bs × Vl), j < k → L[j]? = some t → P t = false)) (fun i _ => L.length - (intOf i).toNat)
 case atStart => exact ⟨0, by omega, rfl, Below.refl _ _, Lib.hid (fun j t h => absurd h (by omega))⟩
 case round =>
   obtain ⟨k, hk, rfl, hb, HQ⟩ := hrel
   by_cases hlt : k < L.length
   · obtain ⟨t, ht⟩ : ∃ t, L[k]? = some t := ⟨L[k], List.getElem?_eq_getElem hlt⟩
     have hki : (k : Int) < (L.length : Int) := by omega
     have hkn : IntKind.i64.wrap ((k : Int) + 1) = ((k + 1 : Nat) : Int) := by rw [IntWalk.i64_in _ (by omega)]; omega
     have hmem : t ∈ L := List.mem_of_getElem? ht
     have KP1 := Lib.hid (KP.out t hmem)
     obtain ⟨r, hr⟩ : ∃ r, P t = r := ⟨_, rfl⟩
     rw [hr] at KP1
     have HY : Hid (r = true → R = (k : Int)) := Lib.hid (fun h => by rw [← HR.out]; exact idx_hit ht (hr.trans h) HQ.out)
     have HN : Hid (r = false → ∀ (j : Nat) (t : Bs × Vl), j < k + 1 → L[j]? = some t → P t = false) := Lib.hid (fun h j u hj hu => by
       by_cases he : j = k
       · subst he
         rw [ht] at hu
         injection hu with hu
         rw [← hu, hr, h]
       · exact HQ.out j u (by omega) hu)
     clear hr
     obtain ⟨g, o, rfl, HC⟩ := rmb_get HM.out ht
     obtain ⟨tn, vk, vn, vs, vt, vm⟩ := t
     simp only at HC
     obtain ⟨c0, c1, c2, c3, c4, c5⟩ := HC
     replace c0 := keep1 hb c0
     replace c1 := keep1 hb c1
     replace c2 := keep1 hb c2
     replace c3 := keep1 hb c3
     replace c4 := keep1 hb c4
     replace c5 := keep1 hb c5
     clear ht hmem HQ
     go_wp2_with fail
     refine (KP1.out _ hb).mono ?_
     rintro e w2 ⟨rfl, hb2⟩
     clear c0 c1 c2 c3 c4 c5
     cases r with
     | true =>
       go_wp2_with fail
       go_returns
       exact ⟨by rw [HY.out (by simp)]; rfl, by (repeat' first | (with_reducible first | exact .refl _ _ | assumption | apply balloc | apply Below.drew | apply bset | refine bstep ?_ ‹_› | refine bturn ?_ ‹_› ?_) | go_size)⟩
     | false =>
       go_wp2_with fail
       go_roundw
       case rel => exact ⟨k + 1, by omega, by go_num, by (repeat' first | (with_reducible first | exact .refl _ _ | assumption | apply balloc | apply Below.drew | apply bset | refine bstep ?_ ‹_› | refine bturn ?_ ‹_› ?_) | go_size), Lib.hid (HN.out (by simp))⟩
       case measure => simp [intOf]; omega
   · obtain rfl : k = L.length := by omega
     have hno : R = -1 := by
       rw [← HR.out]
       refine idx_no fun t ht => ?_
       obtain ⟨j, hj⟩ := List.mem_iff_getElem?.1 ht
       exact HQ.out j t (List.getElem?_eq_some_iff.1 hj).1 hj
     have HN := Lib.hid hno
     clear hno hlt
     go_wp2_with fail
     go_returns
     exact ⟨by rw [HN.out]; rfl, hb⟩
theorem bidx_e1 (P : Bs × Vl → Bool) (D : Nat) (A : Option Addr) (L : List (Bs × Vl)) (c : Nat) (hL : (L.length : Int) ≤ 9223372036854775807) (w : World) (hM : RM clB 6 w A L)
   (KP : Hid (∀ b ∈ L, ∀ W, Below w.heap.size w W → Calls Tryz.prog 31 #[.agg #[.string (bs b.1), .int .i64 b.2.k, .int .i64 b.2.n, .int .i64 b.2.s, .string (bs b.2.t), .int .i64 b.2.m]] W fun e w' => e = .returned (.bool (P b)) ∧ Below W.heap.size W w')) :
   Calls Tryz.prog 53 #[.slice A L.length c, .func (.func 31) #[] #[]] w fun e w' => e = .returned (.int .i64 (idxS P L)) ∧ Below w.heap.size w w' := by
 have HM := Lib.hid hM
 obtain ⟨R, hR⟩ : ∃ R, idxS P L = R := ⟨_, rfl⟩
 have HR := Lib.hid hR
 rw [hR]
 clear hM hR
 go_enter Tryz.func53, Tryz.ntmps53
 go_wp2_with fail
 go_loopw [8] (fun i wr => ∃ k : Nat, k ≤ L.length ∧ i = .int .i64 (k : Int) ∧ Below w.heap.size w wr ∧ Hid (∀ (j : Nat) (t : Bs × Vl), j < k → L[j]? = some t → P t = false)) (fun i _ => L.length - (intOf i).toNat)
 case atStart => exact ⟨0, by omega, rfl, Below.refl _ _, Lib.hid (fun j t h => absurd h (by omega))⟩
 case round =>
   obtain ⟨k, hk, rfl, hb, HQ⟩ := hrel
   by_cases hlt : k < L.length
   · obtain ⟨t, ht⟩ : ∃ t, L[k]? = some t := ⟨L[k], List.getElem?_eq_getElem hlt⟩
     have hki : (k : Int) < (L.length : Int) := by omega
     have hkn : IntKind.i64.wrap ((k : Int) + 1) = ((k + 1 : Nat) : Int) := by rw [IntWalk.i64_in _ (by omega)]; omega
     have hmem : t ∈ L := List.mem_of_getElem? ht
     have KP1 := Lib.hid (KP.out t hmem)
     obtain ⟨r, hr⟩ : ∃ r, P t = r := ⟨_, rfl⟩
     rw [hr] at KP1
     have HY : Hid (r = true → R = (k : Int)) := Lib.hid (fun h => by rw [← HR.out]; exact idx_hit ht (hr.trans h) HQ.out)
     have HN : Hid (r = false → ∀ (j : Nat) (t : Bs × Vl), j < k + 1 → L[j]? = some t → P t = false) := Lib.hid (fun h j u hj hu => by
       by_cases he : j = k
       · subst he
         rw [ht] at hu
         injection hu with hu
         rw [← hu, hr, h]
       · exact HQ.out j u (by omega) hu)
     clear hr
     obtain ⟨g, o, rfl, HC⟩ := rmb_get HM.out ht
     obtain ⟨tn, vk, vn, vs, vt, vm⟩ := t
     simp only at HC
     obtain ⟨c0, c1, c2, c3, c4, c5⟩ := HC
     replace c0 := keep1 hb c0
     replace c1 := keep1 hb c1
     replace c2 := keep1 hb c2
     replace c3 := keep1 hb c3
     replace c4 := keep1 hb c4
     replace c5 := keep1 hb c5
     clear ht hmem HQ
     go_wp2_with fail
     refine (KP1.out _ hb).mono ?_
     rintro e w2 ⟨rfl, hb2⟩
     clear c0 c1 c2 c3 c4 c5
     cases r with
     | true =>
       go_wp2_with fail
       go_returns
       exact ⟨by rw [HY.out (by simp)]; rfl, by (repeat' first | (with_reducible first | exact .refl _ _ | assumption | apply balloc | apply Below.drew | apply bset | refine bstep ?_ ‹_› | refine bturn ?_ ‹_› ?_) | go_size)⟩
     | false =>
       go_wp2_with fail
       go_roundw
       case rel => exact ⟨k + 1, by omega, by go_num, by (repeat' first | (with_reducible first | exact .refl _ _ | assumption | apply balloc | apply Below.drew | apply bset | refine bstep ?_ ‹_› | refine bturn ?_ ‹_› ?_) | go_size), Lib.hid (HN.out (by simp))⟩
       case measure => simp [intOf]; omega
   · obtain rfl : k = L.length := by omega
     have hno : R = -1 := by
       rw [← HR.out]
       refine idx_no fun t ht => ?_
       obtain ⟨j, hj⟩ := List.mem_iff_getElem?.1 ht
       exact HQ.out j t (List.getElem?_eq_some_iff.1 hj).1 hj
     have HN := Lib.hid hno
     clear hno hlt
     go_wp2_with fail
     go_returns
     exact ⟨by rw [HN.out]; rfl, hb⟩
theorem bidx_e2 (P : Bs × Vl → Bool) (D : Nat) (A : Option Addr) (L : List (Bs × Vl)) (c : Nat) (hL : (L.length : Int) ≤ 9223372036854775807) (w : World) (hM : RM clB 6 w A L)
   (KP : Hid (∀ b ∈ L, ∀ W, Below w.heap.size w W → Calls Tryz.prog 33 #[.agg #[.string (bs b.1), .int .i64 b.2.k, .int .i64 b.2.n, .int .i64 b.2.s, .string (bs b.2.t), .int .i64 b.2.m], .pointer (some ⟨D, 0, none⟩)] W fun e w' => e = .returned (.bool (P b)) ∧ Below W.heap.size W w')) :
   Calls Tryz.prog 53 #[.slice A L.length c, .func (.func 33) #[] #[.pointer (some ⟨D, 0, none⟩)]] w fun e w' => e = .returned (.int .i64 (idxS P L)) ∧ Below w.heap.size w w' := by
 have HM := Lib.hid hM
 obtain ⟨R, hR⟩ : ∃ R, idxS P L = R := ⟨_, rfl⟩
 have HR := Lib.hid hR
 rw [hR]
 clear hM hR
 go_enter Tryz.func53, Tryz.ntmps53
 go_wp2_with fail
 go_loopw [8] (fun i wr => ∃ k : Nat, k ≤ L.length ∧ i = .int .i64 (k : Int) ∧ Below w.heap.size w wr ∧ Hid (∀ (j : Nat) (t : Bs × Vl), j < k → L[j]? = some t → P t = false)) (fun i _ => L.length - (intOf i).toNat)
 case atStart => exact ⟨0, by omega, rfl, Below.refl _ _, Lib.hid (fun j t h => absurd h (by omega))⟩
 case round =>
   obtain ⟨k, hk, rfl, hb, HQ⟩ := hrel
   by_cases hlt : k < L.length
   · obtain ⟨t, ht⟩ : ∃ t, L[k]? = some t := ⟨L[k], List.getElem?_eq_getElem hlt⟩
     have hki : (k : Int) < (L.length : Int) := by omega
     have hkn : IntKind.i64.wrap ((k : Int) + 1) = ((k + 1 : Nat) : Int) := by rw [IntWalk.i64_in _ (by omega)]; omega
     have hmem : t ∈ L := List.mem_of_getElem? ht
     have KP1 := Lib.hid (KP.out t hmem)
     obtain ⟨r, hr⟩ : ∃ r, P t = r := ⟨_, rfl⟩
     rw [hr] at KP1
     have HY : Hid (r = true → R = (k : Int)) := Lib.hid (fun h => by rw [← HR.out]; exact idx_hit ht (hr.trans h) HQ.out)
     have HN : Hid (r = false → ∀ (j : Nat) (t : Bs × Vl), j < k + 1 → L[j]? = some t → P t = false) := Lib.hid (fun h j u hj hu => by
       by_cases he : j = k
       · subst he
         rw [ht] at hu
         injection hu with hu
         rw [← hu, hr, h]
       · exact HQ.out j u (by omega) hu)
     clear hr
     obtain ⟨g, o, rfl, HC⟩ := rmb_get HM.out ht
     obtain ⟨tn, vk, vn, vs, vt, vm⟩ := t
     simp only at HC
     obtain ⟨c0, c1, c2, c3, c4, c5⟩ := HC
     replace c0 := keep1 hb c0
     replace c1 := keep1 hb c1
     replace c2 := keep1 hb c2
     replace c3 := keep1 hb c3
     replace c4 := keep1 hb c4
     replace c5 := keep1 hb c5
     clear ht hmem HQ
     go_wp2_with fail
     refine (KP1.out _ hb).mono ?_
     rintro e w2 ⟨rfl, hb2⟩
     clear c0 c1 c2 c3 c4 c5
     cases r with
     | true =>
       go_wp2_with fail
       go_returns
       exact ⟨by rw [HY.out (by simp)]; rfl, by (repeat' first | (with_reducible first | exact .refl _ _ | assumption | apply balloc | apply Below.drew | apply bset | refine bstep ?_ ‹_› | refine bturn ?_ ‹_› ?_) | go_size)⟩
     | false =>
       go_wp2_with fail
       go_roundw
       case rel => exact ⟨k + 1, by omega, by go_num, by (repeat' first | (with_reducible first | exact .refl _ _ | assumption | apply balloc | apply Below.drew | apply bset | refine bstep ?_ ‹_› | refine bturn ?_ ‹_› ?_) | go_size), Lib.hid (HN.out (by simp))⟩
       case measure => simp [intOf]; omega
   · obtain rfl : k = L.length := by omega
     have hno : R = -1 := by
       rw [← HR.out]
       refine idx_no fun t ht => ?_
       obtain ⟨j, hj⟩ := List.mem_iff_getElem?.1 ht
       exact HQ.out j t (List.getElem?_eq_some_iff.1 hj).1 hj
     have HN := Lib.hid hno
     clear hno hlt
     go_wp2_with fail
     go_returns
     exact ⟨by rw [HN.out]; rfl, hb⟩
theorem bcont_e1 (P : Bs × Vl → Bool) (D : Nat) (A : Option Addr) (L : List (Bs × Vl)) (c : Nat) (hL : (L.length : Int) ≤ 9223372036854775807) (w : World) (hM : RM clB 6 w A L)
   (KP : Hid (∀ b ∈ L, ∀ W, Below w.heap.size w W → Calls Tryz.prog 31 #[.agg #[.string (bs b.1), .int .i64 b.2.k, .int .i64 b.2.n, .int .i64 b.2.s, .string (bs b.2.t), .int .i64 b.2.m]] W fun e w' => e = .returned (.bool (P b)) ∧ Below W.heap.size W w')) :
   Calls Tryz.prog 30 #[.slice A L.length c, .func (.func 31) #[] #[]] w fun e w' => e = .returned (.bool (L.any P)) ∧ Below w.heap.size w w' := by
 have KI := Lib.hid (fun W (h : Below w.heap.size w W) => bidx_e1 P D A L c hL W (hM.step h) (Lib.hid fun b hb W' hW' => KP.out b hb W' (bstep h hW')))
 have HA := Lib.hid (idx_any (P := P) L)
 obtain ⟨R, hR⟩ : ∃ R, idxS P L = R := ⟨_, rfl⟩
 obtain ⟨X, hX⟩ : ∃ X, L.any P = X := ⟨_, rfl⟩
 rw [hR] at KI HA
 rw [hX] at HA ⊢
 clear hM KP hR hX hL
 go_enter Tryz.func30, Tryz.ntmps30
 go_wp2_with fail
 refine (KI.out _ (by (repeat' first | (with_reducible first | exact .refl _ _ | assumption | apply balloc | apply Below.drew | apply bset | refine bstep ?_ ‹_› | refine bturn ?_ ‹_› ?_) | go_size))).mono ?_
 rintro e w1 ⟨rfl, hb1⟩
 go_wp2_with fail
 go_returns
 exact ⟨by rw [← HA.out]; rfl, by (repeat' first | (with_reducible first | exact .refl _ _ | assumption | apply balloc | apply Below.drew | apply bset | refine bstep ?_ ‹_› | refine bturn ?_ ‹_› ?_) | go_size)⟩
theorem bcont_e2 (P : Bs × Vl → Bool) (D : Nat) (A : Option Addr) (L : List (Bs × Vl)) (c : Nat) (hL : (L.length : Int) ≤ 9223372036854775807) (w : World) (hM : RM clB 6 w A L)
   (KP : Hid (∀ b ∈ L, ∀ W, Below w.heap.size w W → Calls Tryz.prog 33 #[.agg #[.string (bs b.1), .int .i64 b.2.k, .int .i64 b.2.n, .int .i64 b.2.s, .string (bs b.2.t), .int .i64 b.2.m], .pointer (some ⟨D, 0, none⟩)] W fun e w' => e = .returned (.bool (P b)) ∧ Below W.heap.size W w')) :
   Calls Tryz.prog 30 #[.slice A L.length c, .func (.func 33) #[] #[.pointer (some ⟨D, 0, none⟩)]] w fun e w' => e = .returned (.bool (L.any P)) ∧ Below w.heap.size w w' := by
 have KI := Lib.hid (fun W (h : Below w.heap.size w W) => bidx_e2 P D A L c hL W (hM.step h) (Lib.hid fun b hb W' hW' => KP.out b hb W' (bstep h hW')))
 have HA := Lib.hid (idx_any (P := P) L)
 obtain ⟨R, hR⟩ : ∃ R, idxS P L = R := ⟨_, rfl⟩
 obtain ⟨X, hX⟩ : ∃ X, L.any P = X := ⟨_, rfl⟩
 rw [hR] at KI HA
 rw [hX] at HA ⊢
 clear hM KP hR hX hL
 go_enter Tryz.func30, Tryz.ntmps30
 go_wp2_with fail
 refine (KI.out _ (by (repeat' first | (with_reducible first | exact .refl _ _ | assumption | apply balloc | apply Below.drew | apply bset | refine bstep ?_ ‹_› | refine bturn ?_ ‹_› ?_) | go_size))).mono ?_
 rintro e w1 ⟨rfl, hb1⟩
 go_wp2_with fail
 go_returns
 exact ⟨by rw [← HA.out]; rfl, by (repeat' first | (with_reducible first | exact .refl _ _ | assumption | apply balloc | apply Below.drew | apply bset | refine bstep ?_ ‹_› | refine bturn ?_ ‹_› ?_) | go_size)⟩
end Go.Proofs.YtapilekangmcoaaGreatDoor
namespace Go.Proofs.YtapilekangmcoaaGreatDoor
open Go.RowKit
def vlV (v : Vl) : Logic.Val := ⟨v.k, v.n, v.s, bs v.t, v.m⟩
theorem veq_vl (v u : Vl) : Logic.veq (vlV v) (vlV u) = vEq v u := by
 unfold Logic.veq vlV vEq
 simp only [bs_toList]
theorem tv_vl (b : Bool) : Logic.tv b = vlV (truV b) := by cases b <;> rfl
theorem nul_vl : Logic.nul = vlV zeroV := rfl
theorem truth_vl (b : Bool) (w : World) : Calls Tryz.prog 41 #[.bool b] w fun e w' => e = .returned (.agg (cellsV (truV b))) ∧ Below w.heap.size w w' := by
 refine (Logic.truth_any b w).mono ?_
 rintro e w' ⟨rfl, c1, c2, rfl⟩
 exact ⟨by cases b <;> rfl, by (repeat' first | (with_reducible first | exact .refl _ _ | assumption | apply balloc | apply Below.drew | apply bset | refine bstep ?_ ‹_› | refine bturn ?_ ‹_› ?_) | go_size)⟩
theorem is_vl (v : Vl) (w : World) : Calls Tryz.prog 58 #[.agg (cellsV v)] w fun e w' => e = .returned (.bool (vEq v (truV true))) ∧ Below w.heap.size w w' := by
 have h := Logic.is_any (vlV v) w
 rw [tv_vl, veq_vl] at h
 exact h
theorem not_vl (v : Vl) (w : World) : Calls Tryz.prog 60 #[.agg (cellsV v)] w fun e w' => e = .returned (.agg (cellsV (notC v))) ∧ Below w.heap.size w w' := by
 have h := Logic.not_any (vlV v) w
 have e : (Logic.notS (vlV v)).v = .agg (cellsV (notC v)) := by
   unfold Logic.notS notC
   rw [tv_vl, tv_vl, veq_vl, veq_vl]
   split
   · rfl
   · split
     · rfl
     · rfl
 rw [e] at h
 exact h
theorem all2_vl (want : Bool) (a b : Vl) : Logic.allS want (Logic.tv want) [vlV a, vlV b] = vlV (all2 want a b) := by
 simp only [Logic.allS, all2, tv_vl, veq_vl, nul_vl]
 repeat' split
 all_goals first | rfl | (simp_all; done)
theorem vs_two' {w : World} {g : Nat} {T : TypeId} {a b : Vl} (h : Blk w g T (cellsV a ++ cellsV b)) : Logic.VS w (some ⟨g, 0, none⟩) [vlV a, vlV b] := by
 intro i v hv
 match i, hv with
 | 0, hv => obtain rfl : vlV a = v := by simpa using hv
            exact ⟨g, 0, rfl, h.cell 0, h.cell 1, h.cell 2, h.cell 3, h.cell 4⟩
 | 1, hv => obtain rfl : vlV b = v := by simpa using hv
            exact ⟨g, 0, rfl, h.cell 5, h.cell 6, h.cell 7, h.cell 8, h.cell 9⟩
 | n + 2, hv => simp at hv
theorem and_vl (g c : Nat) (T : TypeId) (a b : Vl) (w : World) (h : Blk w g T (cellsV a ++ cellsV b)) : Calls Tryz.prog 61 #[.slice (some ⟨g, 0, none⟩) 2 c] w fun e w' => e = .returned (.agg (cellsV (all2 true a b))) ∧ Below w.heap.size w w' := by
 have k := Logic.and_any (some ⟨g, 0, none⟩) c [vlV a, vlV b] w (vs_two' h) (by simp [maxLen])
 rw [all2_vl] at k
 exact k
theorem or_vl (g c : Nat) (T : TypeId) (a b : Vl) (w : World) (h : Blk w g T (cellsV a ++ cellsV b)) : Calls Tryz.prog 62 #[.slice (some ⟨g, 0, none⟩) 2 c] w fun e w' => e = .returned (.agg (cellsV (all2 false a b))) ∧ Below w.heap.size w w' := by
 have k := Logic.or_any (some ⟨g, 0, none⟩) c [vlV a, vlV b] w (vs_two' h) (by simp [maxLen])
 rw [all2_vl] at k
 exact k
end Go.Proofs.YtapilekangmcoaaGreatDoor
namespace Go.Proofs.YtapilekangmcoaaGreatDoor
open Go.RowKit
/-- if a > 2 then a * 2.5 else null -/
def ckB : Bs := [105, 102, 32, 97, 32, 62, 32, 50, 32, 116, 104, 101, 110, 32, 97, 32, 42, 32, 50, 46, 53, 32, 101, 108, 115, 101, 32, 110, 117, 108, 108]
def ckX : Ex := .mk 17 zeroV [] [.mk 12 zeroV [] [akN 97, .mk 1 (akV 2) [] []], .mk 6 zeroV [] [akN 97, .mk 1 ⟨1, 25, 1, [], 0⟩ [] []], .mk 1 zeroV [] []]
def ckL : List Tk := [nm bIf, nm [97], sg [62], nu 2, nm bThen, nm [97], sg [42], ⟨1, 0, [], 25, 1, 0⟩, nm bElse, nm nullB]
theorem ck_reads (m : Int) (w : World) (hw : OKW m w) : Reads (lxX m) ckB ckL := by
 have n2 := num_next m w hw 2 0 (by decide) (by decide)
 have n3 := num_next m w hw 25 1 (by decide) (by decide)
 have t2 : textU (2 : Int).toNat (0 : Int).toNat = [50] := by decide +kernel
 have t3 : textU (25 : Int).toNat (1 : Int).toNat = [50, 46, 53] := by decide +kernel
 rw [t2] at n2
 rw [t3] at n3
 refine reads_tok (o := bIf) rfl rfl (stop_blank _) (reads_blank ?_)
 refine ak_word (c := 97) (by decide) (stop_blank _) (reads_blank ?_)
 refine reads_sign (g := [62]) rfl rfl (by decide) (reads_blank ?_)
 refine reads_tok (o := [50]) n2.1 n2.2 (stop_blank _) (reads_blank ?_)
 refine reads_tok (o := bThen) rfl rfl (stop_blank _) (reads_blank ?_)
 refine ak_word (c := 97) (by decide) (stop_blank _) (reads_blank ?_)
 refine reads_sign (g := [42]) rfl rfl (by decide) (reads_blank ?_)
 refine reads_tok (o := [50, 46, 53]) n3.1 n3.2 (stop_blank _) (reads_blank ?_)
 refine reads_tok (o := bElse) rfl rfl (stop_blank _) (reads_blank ?_)
 exact reads_tok (o := nullB) (M := []) rfl rfl (.inl rfl) (reads_nil _)
theorem ck_expr (a0 a1 a2 a3 a4 a5 a6 a7 a8 a9 en a : Nat) (p : PS) (hp : p = ⟨[{ nm bIf with a := a0 }, { nm [97] with a := a1 }, { sg [62] with a := a2 }, { nu 2 with a := a3 }, { nm bThen with a := a4 }, { nm [97] with a := a5 }, { sg [42] with a := a6 }, ⟨1, a7, [], 25, 1, 0⟩, { nm bElse with a := a8 }, { nm nullB with a := a9 }], 0, en, (a : Int), 0, 0⟩) :
   exprF wordB 600000 p 1 = (ckX, { p with nx := 10, md := 8 }) := by
 subst hp
 kernel_rfl
theorem ck_sound : soundX ckX = true := (soundX_iff ckX).2 ⟨.ife _ _ _ (.bin 12 _ _ (by decide) (by decide) (.name _ (by decide)) (.val _ (.inr (.inl ⟨rfl, by decide, rfl, rfl⟩)) (by decide))) (.bin 6 _ _ (by decide) (by decide) (.name _ (by decide)) (.val _ (.inr (.inl ⟨rfl, by decide, rfl, rfl⟩)) (by decide))) (.val _ zero_sound (by decide)), by decide, by decide⟩
theorem ck_parse (m : Int) (w : World) (hw : OKW m w) : exprS (lxX m) 600000 soundX ckB = (ckX, 0, 0) := by
 obtain ⟨hon, hmd⟩ := on_new (by decide) (ck_reads m w hw)
 have hlk := hon.lk
 have hnx : (newP (toksS (lxX m) ckB) ckB.length).nx = 0 := rfl
 have he := hon.e
 unfold exprS
 generalize hP : newP (toksS (lxX m) ckB) ckB.length = p at hlk hnx he hmd ⊢
 obtain ⟨L, nx, en, a, e, md⟩ := p
 simp only at hnx he hmd hlk
 subst hnx he hmd
 rw [List.drop_zero] at hlk
 obtain ⟨a0, L0, rfl, l0⟩ := like_cons hlk
 obtain ⟨a1, L1, rfl, l1⟩ := like_cons l0
 obtain ⟨a2, L2, rfl, l2⟩ := like_cons l1
 obtain ⟨a3, L3, rfl, l3⟩ := like_cons l2
 obtain ⟨a4, L4, rfl, l4⟩ := like_cons l3
 obtain ⟨a5, L5, rfl, l5⟩ := like_cons l4
 obtain ⟨a6, L6, rfl, l6⟩ := like_cons l5
 obtain ⟨a7, L7, rfl, l7⟩ := like_cons l6
 obtain ⟨a8, L8, rfl, l8⟩ := like_cons l7
 obtain ⟨a9, L9, rfl, l9⟩ := like_cons l8
 obtain rfl := like_nil l9
 have ha : a = (((toksS (lxX m) ckB).n : Nat) : Int) := (congrArg PS.a hP).symm
 rw [ck_expr a0 a1 a2 a3 a4 a5 a6 a7 a8 a9 en _ _ (by rw [ha])]
 dsimp only
 rw [ck_sound]
 exact rfl
/-- Expressions that are written as they are read. -/
def o2 (o : Int) (a b : UInt8) : Ex := .mk o zeroV [] [akN a, akN b]
def no (x : Ex) : Ex := .mk 16 zeroV [] [x]
theorem o2_es {o : Int} (h4 : 4 ≤ o) (h15 : o ≤ 15) {a b : UInt8} (ha : wordB [a] = true) (hb : wordB [b] = true) : ES wordB (o2 o a b) := .bin o _ _ h4 h15 (.name _ ha) (.name _ hb)
theorem closed_parse (m : Int) (w : World) (hw : OKW m w) {x : Ex} {t : Bs} (hx : ES wordB x) (hd : dep x ≤ 64) (hc : cnt x ≤ 4096) (ht : etxt x = t) (hl : t.length ≤ 65536) : exprS (lxX m) 600000 soundX t = (x, 0, 0) := by
 have := expr_back m w hw hx hd hc (by rw [ht]; exact hl) soundX ((soundX_iff x).2 ⟨hx, hd, hc⟩) 600000 (by decide)
 rw [ht] at this
 exact this
end Go.Proofs.YtapilekangmcoaaGreatDoor
namespace Go.Proofs.YtapilekangmcoaaGreatDoor
open Go.RowKit
/-- The parser q goes through the tokens of p, behind it, and has made no less. -/
structure Fw (p q : PS) : Prop where
 L : q.L = p.L
 nx : p.nx ≤ q.nx
 md : p.md ≤ q.md
section
variable {p q r : PS} {W : Bs → Bool}
theorem Fw.refl (p : PS) : Fw p p := ⟨rfl, Nat.le_refl _, Int.le_refl _⟩
theorem Fw.trans (h : Fw p q) (k : Fw q r) : Fw p r := ⟨k.L.trans h.L, Nat.le_trans h.nx k.nx, Int.le_trans h.md k.md⟩
theorem fw_fail (p : PS) (k : Int) : Fw p (p.fail k) := by
 obtain ⟨h1, h2, h3, _⟩ := fail_p p k
 exact ⟨h3, Nat.le_of_eq h2.symm, Int.le_of_eq h1.symm⟩
theorem fw_adv (p : PS) : Fw p p.adv := ⟨rfl, Nat.le_succ _, Int.le_refl _⟩
theorem fw_need (p : PS) (s : Bs) : Fw p (p.need s) := by
 unfold PS.need
 split
 · exact fw_adv p
 · exact fw_fail p 5
theorem fw_made (p : PS) : Fw p p.made := ⟨made_L p, Nat.le_of_eq (made_nx p).symm, by rw [made_md]; omega⟩
theorem fw_deep (p : PS) (d : Nat) : Fw p (p.deep d) := by
 unfold PS.deep
 split
 · exact fw_fail p 9
 · exact Fw.refl p
theorem fw_all (W : Bs → Bool) : ∀ f,
   (∀ (p : PS) (d : Nat), Fw p (exprF W f p d).2) ∧
   (∀ (p : PS) (d n : Nat), Fw p (chainF W f p d n).2) ∧
   (∀ (x : Ex) (p : PS) (d n : Nat), Fw p (moreF W f x p d n).2) ∧
   (∀ (p : PS) (d : Nat), Fw p (prefixF W f p d).2)
 | 0 => by
   refine ⟨fun p d => ?_, fun p d n => ?_, fun x p d n => ?_, fun p d => ?_⟩
   · unfold exprF; exact Fw.refl p
   · unfold chainF; exact Fw.refl p
   · unfold moreF; exact Fw.refl p
   · unfold prefixF; exact Fw.refl p
 | f + 1 => by
   obtain ⟨hE, hC, hM, hP⟩ := fw_all W f
   refine ⟨fun p d => ?_, fun p d n => ?_, fun x p d n => ?_, fun p d => ?_⟩
   · unfold exprF
     split
     · exact ((((((fw_deep p d).trans (fw_adv _)).trans (hE _ d)).trans (fw_need _ bThen)).trans (hE _ d)).trans (fw_need _ bElse)).trans (hE _ d) |>.trans (fw_made _)
     · exact (fw_deep p d).trans (hC _ d 0)
   · unfold chainF
     split
     · exact hP p d
     · exact (hC p d (n + 1)).trans (hM _ _ d n)
   · unfold moreF
     split
     · split
       · exact Fw.refl p
       · dsimp only
         split
         · exact ((fw_adv p).trans (hC _ d (n + 1))).trans (fw_made _)
         · exact (((fw_adv p).trans (hC _ d (n + 1))).trans (fw_made _)).trans (hM _ _ d n)
     · exact Fw.refl p
   · unfold prefixF
     split
     · split
       · exact ((fw_adv p).trans (hP _ d)).trans (fw_made _)
       · split
         · exact ((fw_adv p).trans (hE _ (d + 1))).trans (fw_need _ [41])
         · split
           · exact ((((fw_adv p).trans (fw_need _ [40])).trans (hE _ (d + 1))).trans (fw_need _ [41])).trans (fw_made _)
           · split
             · exact (fw_adv p).trans (fw_made _)
             · split
               · exact fw_fail p 5
               · split
                 · exact (fw_made p).trans (fw_adv _)
                 · exact fw_fail p 5
     · exact Fw.refl p
/-- How a parser stands that makes expressions: no more made than taken (c fewer), k tokens left at most. -/
structure Rm (c : Int) (k : Nat) (p : PS) : Prop where
 lo : 0 ≤ p.md
 md : p.md + c ≤ p.nx
 le : p.nx ≤ p.L.length
 k : p.L.length - p.nx ≤ k
 big : p.L.length ≤ 100000
variable {c : Int} {k : Nat} {s : Bs}
theorem Rm.inv (h : Rm c k p) : Inv c p := ⟨h.md, h.le⟩
theorem Rm.of (h : Rm c k p) (hi : Inv c q) (hf : Fw p q) : Rm c k q := ⟨Int.le_trans h.lo hf.md, hi.md, hi.le, by have := hf.nx; have := h.k; rw [hf.L]; omega, by rw [hf.L]; exact h.big⟩
theorem Rm.fail (h : Rm c k p) (e : Int) : Rm c k (p.fail e) := h.of (h.inv.fail e) (fw_fail p e)
theorem Rm.need (h : Rm c k p) (s : Bs) : Rm c k (p.need s) := h.of (h.inv.need s).1 (fw_need p s)
theorem Rm.deep (h : Rm c k p) (d : Nat) : Rm c k (p.deep d) := h.of (h.inv.deep d).1 (fw_deep p d)
theorem Rm.made (h : Rm (c + 1) k p) : Rm c k p.made := ⟨by rw [made_md]; have := h.lo; omega, h.inv.made.md, h.inv.made.le, by rw [made_L, made_nx]; exact h.k, by rw [made_L]; exact h.big⟩
theorem Rm.less (h : Rm (c + 1) k p) : Rm c k p := ⟨h.lo, by have := h.md; omega, h.le, h.k, h.big⟩
theorem Rm.adv (h : Rm c k p) (hn : p.nx < p.L.length) : Rm (c + 1) (k - 1) p.adv := by
 have h1 := h.inv.adv hn
 exact ⟨h.lo, h1.md, h1.le, by have := h.k; show p.L.length - (p.nx + 1) ≤ k - 1; omega, h.big⟩
theorem Rm.pos (h : Rm c k p) (hn : p.nx < p.L.length) : 1 ≤ k := by have := h.k; omega
theorem Rm.expr (h : Rm c k p) (f d : Nat) : Rm c k (exprF W f p d).2 := h.of (((inv_all W f).1 p d c h.inv).1) ((fw_all W f).1 p d)
theorem Rm.chain (h : Rm c k p) (f d n : Nat) : Rm c k (chainF W f p d n).2 := h.of (((inv_all W f).2.1 p d n c h.inv).1) ((fw_all W f).2.1 p d n)
theorem Rm.prefix_ (h : Rm c k p) (f d : Nat) : Rm c k (prefixF W f p d).2 := h.of (((inv_all W f).2.2.2 p d c h.inv).1) ((fw_all W f).2.2.2 p d)
end
end Go.Proofs.YtapilekangmcoaaGreatDoor
namespace Go.Proofs.YtapilekangmcoaaGreatDoor
open Go.RowKit
theorem PB.turnF {w0 w w' : World} {b g : Nat} {A : Option Addr} {c : Nat} {p0 p : PS} (h0 : PB w0 b A c p0) (hL : p0.L = p.L) (h : PB w b A c p) (ht : Turned w w' g) (hg : w0.heap.size ≤ g) : PB w' b A c p := by
 refine ⟨h.blk.turn ht ?_, h.tm.gr ((Gr.refl g w).turn ht) ?_, h.nb, h.le, h.big⟩
 · have := h0.blk.lt; omega
 · intro i t g' o hi hA
   obtain ⟨g2, o2, e2, hc⟩ := h0.tm i t (by rw [hL]; exact hi)
   rw [hA] at e2
   injection e2 with e2
   injection e2 with e3 e4
   have := block_lt_of_cell (hc 0 _ rfl)
   simp only at this
   omega
/-- What Value comes to. -/
def ValOut (b : Nat) (A : Option Addr) (c : Nat) (p : PS) (w : World) : Option Vl → Ending → World → Prop
 | some v, e, w' => e = .returned (.tuple #[.agg (cellsV v), .bool true]) ∧ PB w' b A c p.adv ∧ Gr b w w'
 | none, e, w' => e = .returned (.tuple #[.agg (cellsV zeroV), .bool false]) ∧ PB w' b A c p ∧ Gr b w w'
set_option maxHeartbeats 16000000 in
theorem value_tok (b : Nat) (A : Option Addr) (c : Nat) (p : PS) (w : World) (h : PB w b A c p) (he : p.e = 0) (t : Tk) (ht : p.L[p.nx]? = some t)
   (T F N : Bool) (hT : p.isS trueB = T) (hF : p.isS falseB = F) (hN : p.isS nullB = N) (O : Option Vl)
   (hO : (if t.k = 1 then some (⟨1, t.n, t.s, [], 0⟩ : Vl) else if t.k = 2 then some ⟨2, 0, 0, t.t, 0⟩ else if t.k = 3 then some ⟨4, 0, 0, [], t.m⟩ else if T = true then some ⟨3, 0, 0, [], 1⟩ else if F = true then some ⟨3, 0, 0, [], 0⟩ else if N = true then some zeroV else none) = O) :
   Calls Tryz.prog 119 #[.pointer (some ⟨b, 0, none⟩)] w fun e w' => ValOut b A c p w O e w' := by
 have hn : p.nx < p.L.length := (List.getElem?_eq_some_iff.1 ht).1
 have hni : ¬ (p.L.length : Int) ≤ (p.nx : Int) := by omega
 have hni2 : (p.nx : Int) < (p.L.length : Int) := by omega
 have hnx : IntKind.i64.wrap ((p.nx : Int) + 1) = (p.nx : Int) + 1 := IntWalk.i64_in _ (by have := h.big; omega)
 have H := Lib.hid h
 have HT := Lib.hid ht
 have HE := Lib.hid he
 have HL := Lib.hid hn
 have K1 := Lib.hid (is_any b A c p trueB)
 have K2 := Lib.hid (is_any b A c p falseB)
 have K3 := Lib.hid (is_any b A c p nullB)
 rw [hT] at K1
 rw [hF] at K2
 rw [hN] at K3
 have HO := Lib.hid hO
 obtain ⟨tk, ta, tt, tn, ts, tmm⟩ := t
 have hbp := (h).blk; obtain ⟨hlp, hllp, qp0, qp1, qp2, qp3, qp4, qp5, zp0, zp1, zp2, zp3, zp4, zp5⟩ := bf6 hbp; (try simp at qp0 qp1 qp2 qp3 qp4 qp5); have Hhbp := Lib.hid hbp; clear hbp
 rw [he] at qp4
 clear h ht he hn hT hF hN hO
 go_enter Tryz.func119, Tryz.ntmps119
 go_wp2_with fail
 go_quiet (fail)
 have k1 : Blk ((w.alloc (.cells #[.int .i64 0, .int .i64 0, .int .i64 0, .string ⟨#[]⟩, .int .i64 0] 25)).drewN nq) w.heap.size 25 #[.int .i64 0, .int .i64 0, .int .i64 0, .string ⟨#[]⟩, .int .i64 0] := (Blk.new _ _ _).drewN nq
 have hb1 : Below w.heap.size w ((w.alloc (.cells #[.int .i64 0, .int .i64 0, .int .i64 0, .string ⟨#[]⟩, .int .i64 0] 25)).drewN nq) := by (repeat' first | (with_reducible first | apply bdrewN | exact .refl _ _ | assumption | apply balloc | apply Below.drew | apply bset | refine bstep ?_ ‹_› | refine bturn ?_ ‹_› ?_) | go_size)
 generalize (w.alloc (.cells #[.int .i64 0, .int .i64 0, .int .i64 0, .string ⟨#[]⟩, .int .i64 0] 25)).drewN nq = w1 at *
 clear qp0 zp0 qp1 zp1 qp2 zp2 qp3 zp3 qp4 zp4 qp5 zp5 hlp hllp Hhbp
 have h1 := H.out.step hb1
 obtain ⟨g, f, rfl, c0, c1, c2, c3, c4, c5⟩ := tm_get h1.tm HT.out
 simp only at c0 c1 c2 c3 c4 c5
 have hlg : g < w1.heap.size := block_lt_of_cell c0
 have hllg := lts hlg
 have hlb := k1.lt
 have hllb := lts hlb
 obtain ⟨q, hq⟩ : ∃ q, bs tt = q := ⟨_, rfl⟩
 rw [hq] at c2
 have hbr := (h1).blk; obtain ⟨hlr, hllr, qr0, qr1, qr2, qr3, qr4, qr5, zr0, zr1, zr2, zr3, zr4, zr5⟩ := bf6 hbr; (try simp at qr0 qr1 qr2 qr3 qr4 qr5); have Hhbr := Lib.hid hbr; clear hbr
 rw [HE.out] at qr4
 have H1 := Lib.hid h1
 clear h1
 go_wp2_with fail
 go_region
 all_goals
   have k2 : Blk ((w1.alloc (.cells #[.int .i64 tk, .int .i64 (ta : Int), .string q, .int .i64 tn, .int .i64 ts, .int .i64 tmm] 101)).drew) w1.heap.size 101 #[.int .i64 tk, .int .i64 (ta : Int), .string q, .int .i64 tn, .int .i64 ts, .int .i64 tmm] := (Blk.new _ _ _).drew
   have k1' : Blk ((w1.alloc (.cells #[.int .i64 tk, .int .i64 (ta : Int), .string q, .int .i64 tn, .int .i64 ts, .int .i64 tmm] 101)).drew) w.heap.size 25 #[.int .i64 0, .int .i64 0, .int .i64 0, .string ⟨#[]⟩, .int .i64 0] := (k1.alloc _).drew
   have hb2 : Below w1.heap.size w1 ((w1.alloc (.cells #[.int .i64 tk, .int .i64 (ta : Int), .string q, .int .i64 tn, .int .i64 ts, .int .i64 tmm] 101)).drew) := by (repeat' first | (with_reducible first | exact .refl _ _ | assumption | apply balloc | apply Below.drew | apply bset | refine bstep ?_ ‹_› | refine bturn ?_ ‹_› ?_) | go_size)
   generalize (w1.alloc (.cells #[.int .i64 tk, .int .i64 (ta : Int), .string q, .int .i64 tn, .int .i64 ts, .int .i64 tmm] 101)).drew = w2 at *
   clear c0 c1 c2 c3 c4 c5 hllg hlg hlb hllb
   clear qr0 zr0 qr1 zr1 qr2 zr2 qr3 zr3 qr4 zr4 qr5 zr5 hlr hllr Hhbr
   have h2 := H1.out.step hb2
   have hb3 : Below w.heap.size w w2 := bstep hb1 hb2
   have hz1 := hb1.size
   have hz2 := hb2.size
   have hlk := k2.lt
   have hlj := k1'.lt
   have H2 := Lib.hid h2
   have hlb := h2.blk.lt
   have hlw := H.out.blk.lt
   have HQ := Lib.hid hq
   have k3 : Blk (w2.alloc (.cells #[.int .i64 0, .int .i64 0, .int .i64 0, .string ⟨#[]⟩, .int .i64 0] 25)) w2.heap.size 25 #[.int .i64 0, .int .i64 0, .int .i64 0, .string ⟨#[]⟩, .int .i64 0] := Blk.new _ _ _
   have HK1 := Lib.hid k1'
   go_upto_region 5 with (refine wpList_store_blk k3 rfl _ _ _ (by rfl) _ (by rfl) (by rfl) (by repeat first | with_reducible first | exact k3 | apply Blk.alloc | apply Blk.drew | refine Blk.far ?_ (by simp <;> omega) _ | refine Blk.turn ?_ ‹_› (by omega)) (by rfl) (by kernel_rfl) (by simp [Value.oneCell']) ?_; intro wt k3n ht)
   have hb4 : Below w2.heap.size w2 wt := bturn (balloc (Below.refl _ _) _) ht (Nat.le_refl _)
   have k2t := k2.step hb4
   have h4 := h2.step hb4
   have G0 := Lib.hid h4
   have hs4 : w2.heap.size < wt.heap.size := k3n.lt
   clear k2 k1' h2 k3 hlk hlj
   by_cases e1 : tk = 1
   · subst e1
     obtain ⟨hlt, hllt, qt0, qt1, qt2, qt3, qt4, qt5, zt0, zt1, zt2, zt3, zt4, zt5⟩ := bf6 k2t; (try simp at qt0 qt1 qt2 qt3 qt4 qt5); have Hk2t := Lib.hid k2t; clear k2t
     clear h4
     go_upto_region 17 with (refine wpList_store_blk k3n rfl _ _ _ (by rfl) _ (by rfl) (by rfl) (by repeat first | with_reducible first | exact k3n | apply Blk.alloc | apply Blk.drew | refine Blk.far ?_ (by simp <;> omega) _ | refine Blk.turn ?_ ‹_› (by omega)) (by rfl) (by kernel_rfl) (by simp [Value.oneCell']) ?_; intro wt k3nn ht)
     have hbv : Below w2.heap.size w2 wt := bturn hb4 ht (Nat.le_refl _)
     have h5 := H2.out.step hbv
     have H5 := Lib.hid h5
     have k1v := HK1.out.step hbv
     have hsv : w2.heap.size < wt.heap.size := (k3nn).lt
     have hbs := (h5).blk; obtain ⟨hls, hlls, qs0, qs1, qs2, qs3, qs4, qs5, zs0, zs1, zs2, zs3, zs4, zs5⟩ := bf6 hbs; (try simp at qs0 qs1 qs2 qs3 qs4 qs5); have Hhbs := Lib.hid hbs; clear hbs
     clear h5
     go_wp2_with (first | (refine wpList_load_blk k3nn rfl _ _ (by rfl) (by rfl) (by (repeat first | with_reducible first | exact k3nn | apply Blk.alloc | apply Blk.drew | refine Blk.far ?_ (by simp <;> omega) _ | refine Blk.turn ?_ ‹_› (by omega))) _ Tryz.underlying25 rfl (by kernel_rfl) ?_) | (refine wpList_store_blk k1v rfl _ _ _ (by rfl) _ (by rfl) (by rfl) (by repeat first | with_reducible first | exact k1v | apply Blk.alloc | apply Blk.drew | refine Blk.far ?_ (by simp <;> omega) _ | refine Blk.turn ?_ ‹_› (by omega)) (by rfl) (by kernel_rfl) (by simp [Value.oneCell']) ?_; intro wt k1vn ht))
     refine ret_blk2 rfl k1vn rfl Tryz.underlying25 rfl (by kernel_rfl) rfl ?_
     obtain rfl : (some ⟨1, tn, ts, [], 0⟩ : Option Vl) = O := HO.out
     exact ⟨by rfl, H.out.turnF rfl (H5.out.adv HL.out) ht (Nat.le_refl _), Gr.turnFar ((Gr.of (bstep hb3 hbv)).set 1 _) ht (Nat.le_refl _)⟩
   · by_cases e2 : tk = 2
     · subst e2
       obtain ⟨hlt, hllt, qt0, qt1, qt2, qt3, qt4, qt5, zt0, zt1, zt2, zt3, zt4, zt5⟩ := bf6 k2t; (try simp at qt0 qt1 qt2 qt3 qt4 qt5); have Hk2t := Lib.hid k2t; clear k2t
       clear h4
       go_upto_region 17 with (refine wpList_store_blk k3n rfl _ _ _ (by rfl) _ (by rfl) (by rfl) (by repeat first | with_reducible first | exact k3n | apply Blk.alloc | apply Blk.drew | refine Blk.far ?_ (by simp <;> omega) _ | refine Blk.turn ?_ ‹_› (by omega)) (by rfl) (by kernel_rfl) (by simp [Value.oneCell']) ?_; intro wt k3nn ht)
       have hbv : Below w2.heap.size w2 wt := bturn hb4 ht (Nat.le_refl _)
       have h5 := H2.out.step hbv
       have H5 := Lib.hid h5
       have k1v := HK1.out.step hbv
       have hsv : w2.heap.size < wt.heap.size := (k3nn).lt
       have hbs := (h5).blk; obtain ⟨hls, hlls, qs0, qs1, qs2, qs3, qs4, qs5, zs0, zs1, zs2, zs3, zs4, zs5⟩ := bf6 hbs; (try simp at qs0 qs1 qs2 qs3 qs4 qs5); have Hhbs := Lib.hid hbs; clear hbs
       clear h5
       go_wp2_with (first | (refine wpList_load_blk k3nn rfl _ _ (by rfl) (by rfl) (by (repeat first | with_reducible first | exact k3nn | apply Blk.alloc | apply Blk.drew | refine Blk.far ?_ (by simp <;> omega) _ | refine Blk.turn ?_ ‹_› (by omega))) _ Tryz.underlying25 rfl (by kernel_rfl) ?_) | (refine wpList_store_blk k1v rfl _ _ _ (by rfl) _ (by rfl) (by rfl) (by repeat first | with_reducible first | exact k1v | apply Blk.alloc | apply Blk.drew | refine Blk.far ?_ (by simp <;> omega) _ | refine Blk.turn ?_ ‹_› (by omega)) (by rfl) (by kernel_rfl) (by simp [Value.oneCell']) ?_; intro wt k1vn ht))
       refine ret_blk2 rfl k1vn rfl Tryz.underlying25 rfl (by kernel_rfl) rfl ?_
       obtain rfl : (some ⟨2, 0, 0, tt, 0⟩ : Option Vl) = O := by have h := HO.out; rw [if_neg e1] at h; exact h
       exact ⟨by subst hq; rfl, H.out.turnF rfl (H5.out.adv HL.out) ht (Nat.le_refl _), Gr.turnFar ((Gr.of (bstep hb3 hbv)).set 1 _) ht (Nat.le_refl _)⟩
     · by_cases e3 : tk = 3
       · subst e3
         obtain ⟨hlt, hllt, qt0, qt1, qt2, qt3, qt4, qt5, zt0, zt1, zt2, zt3, zt4, zt5⟩ := bf6 k2t; (try simp at qt0 qt1 qt2 qt3 qt4 qt5); have Hk2t := Lib.hid k2t; clear k2t
         clear h4
         go_upto_region 17 with (refine wpList_store_blk k3n rfl _ _ _ (by rfl) _ (by rfl) (by rfl) (by repeat first | with_reducible first | exact k3n | apply Blk.alloc | apply Blk.drew | refine Blk.far ?_ (by simp <;> omega) _ | refine Blk.turn ?_ ‹_› (by omega)) (by rfl) (by kernel_rfl) (by simp [Value.oneCell']) ?_; intro wt k3nn ht)
         have hbv : Below w2.heap.size w2 wt := bturn hb4 ht (Nat.le_refl _)
         have h5 := H2.out.step hbv
         have H5 := Lib.hid h5
         have k1v := HK1.out.step hbv
         have hsv : w2.heap.size < wt.heap.size := (k3nn).lt
         have hbs := (h5).blk; obtain ⟨hls, hlls, qs0, qs1, qs2, qs3, qs4, qs5, zs0, zs1, zs2, zs3, zs4, zs5⟩ := bf6 hbs; (try simp at qs0 qs1 qs2 qs3 qs4 qs5); have Hhbs := Lib.hid hbs; clear hbs
         clear h5
         go_wp2_with (first | (refine wpList_load_blk k3nn rfl _ _ (by rfl) (by rfl) (by (repeat first | with_reducible first | exact k3nn | apply Blk.alloc | apply Blk.drew | refine Blk.far ?_ (by simp <;> omega) _ | refine Blk.turn ?_ ‹_› (by omega))) _ Tryz.underlying25 rfl (by kernel_rfl) ?_) | (refine wpList_store_blk k1v rfl _ _ _ (by rfl) _ (by rfl) (by rfl) (by repeat first | with_reducible first | exact k1v | apply Blk.alloc | apply Blk.drew | refine Blk.far ?_ (by simp <;> omega) _ | refine Blk.turn ?_ ‹_› (by omega)) (by rfl) (by kernel_rfl) (by simp [Value.oneCell']) ?_; intro wt k1vn ht))
         refine ret_blk2 rfl k1vn rfl Tryz.underlying25 rfl (by kernel_rfl) rfl ?_
         obtain rfl : (some ⟨4, 0, 0, [], tmm⟩ : Option Vl) = O := by have h := HO.out; rw [if_neg e1, if_neg e2] at h; exact h
         exact ⟨by rfl, H.out.turnF rfl (H5.out.adv HL.out) ht (Nat.le_refl _), Gr.turnFar ((Gr.of (bstep hb3 hbv)).set 1 _) ht (Nat.le_refl _)⟩
       · have HO : Hid ((if T = true then some (⟨3, 0, 0, [], 1⟩ : Vl) else if F = true then some ⟨3, 0, 0, [], 0⟩ else if N = true then some zeroV else none) = O) := Lib.hid (by have h := HO.out; rw [if_neg e1, if_neg e2, if_neg e3] at h; exact h)
         obtain ⟨hlt, hllt, qt0, qt1, qt2, qt3, qt4, qt5, zt0, zt1, zt2, zt3, zt4, zt5⟩ := bf6 k2t; (try simp at qt0 qt1 qt2 qt3 qt4 qt5); have Hk2t := Lib.hid k2t; clear k2t
         clear h4
         go_upto_region 11 with fail
         go_wp2_with fail
         refine (K1.out _ G0.out).mono ?_
         rintro e v0 ⟨rfl, hc0⟩
         have d0 : Below w2.heap.size w2 v0 := bstep hb4 hc0
         have k3v0 := k3n.step hc0
         have hsv0 : w2.heap.size < v0.heap.size := k3v0.lt
         have G1 := Lib.hid (G0.out.step hc0)
         cases T with
         | true =>
           go_upto_region 17 with (refine wpList_store_blk k3v0 rfl _ _ _ (by rfl) _ (by rfl) (by rfl) (by repeat first | with_reducible first | exact k3v0 | apply Blk.alloc | apply Blk.drew | refine Blk.far ?_ (by simp <;> omega) _ | refine Blk.turn ?_ ‹_› (by omega)) (by rfl) (by kernel_rfl) (by simp [Value.oneCell']) ?_; intro wt k3v0n ht)
           have hbv : Below w2.heap.size w2 wt := bturn d0 ht (Nat.le_refl _)
           have h5 := H2.out.step hbv
           have H5 := Lib.hid h5
           have k1v := HK1.out.step hbv
           have hsv : w2.heap.size < wt.heap.size := (k3v0n).lt
           have hbs := (h5).blk; obtain ⟨hls, hlls, qs0, qs1, qs2, qs3, qs4, qs5, zs0, zs1, zs2, zs3, zs4, zs5⟩ := bf6 hbs; (try simp at qs0 qs1 qs2 qs3 qs4 qs5); have Hhbs := Lib.hid hbs; clear hbs
           clear h5
           go_wp2_with (first | (refine wpList_load_blk k3v0n rfl _ _ (by rfl) (by rfl) (by (repeat first | with_reducible first | exact k3v0n | apply Blk.alloc | apply Blk.drew | refine Blk.far ?_ (by simp <;> omega) _ | refine Blk.turn ?_ ‹_› (by omega))) _ Tryz.underlying25 rfl (by kernel_rfl) ?_) | (refine wpList_store_blk k1v rfl _ _ _ (by rfl) _ (by rfl) (by rfl) (by repeat first | with_reducible first | exact k1v | apply Blk.alloc | apply Blk.drew | refine Blk.far ?_ (by simp <;> omega) _ | refine Blk.turn ?_ ‹_› (by omega)) (by rfl) (by kernel_rfl) (by simp [Value.oneCell']) ?_; intro wt k1vn ht))
           refine ret_blk2 rfl k1vn rfl Tryz.underlying25 rfl (by kernel_rfl) rfl ?_
           obtain rfl : (some ⟨3, 0, 0, [], 1⟩ : Option Vl) = O := HO.out
           exact ⟨by rfl, H.out.turnF rfl (H5.out.adv HL.out) ht (Nat.le_refl _), Gr.turnFar ((Gr.of (bstep hb3 hbv)).set 1 _) ht (Nat.le_refl _)⟩
         | false =>
           go_wp2_with fail
           refine (K2.out _ G1.out).mono ?_
           rintro e v1 ⟨rfl, hc1⟩
           have d1 : Below w2.heap.size w2 v1 := bstep d0 hc1
           have k3v1 := k3v0.step hc1
           have hsv1 : w2.heap.size < v1.heap.size := k3v1.lt
           have G2 := Lib.hid (G1.out.step hc1)
           cases F with
           | true =>
             go_upto_region 17 with (refine wpList_store_blk k3v1 rfl _ _ _ (by rfl) _ (by rfl) (by rfl) (by repeat first | with_reducible first | exact k3v1 | apply Blk.alloc | apply Blk.drew | refine Blk.far ?_ (by simp <;> omega) _ | refine Blk.turn ?_ ‹_› (by omega)) (by rfl) (by kernel_rfl) (by simp [Value.oneCell']) ?_; intro wt k3v1n ht)
             have hbv : Below w2.heap.size w2 wt := bturn d1 ht (Nat.le_refl _)
             have h5 := H2.out.step hbv
             have H5 := Lib.hid h5
             have k1v := HK1.out.step hbv
             have hsv : w2.heap.size < wt.heap.size := (k3v1n).lt
             have hbs := (h5).blk; obtain ⟨hls, hlls, qs0, qs1, qs2, qs3, qs4, qs5, zs0, zs1, zs2, zs3, zs4, zs5⟩ := bf6 hbs; (try simp at qs0 qs1 qs2 qs3 qs4 qs5); have Hhbs := Lib.hid hbs; clear hbs
             clear h5
             go_wp2_with (first | (refine wpList_load_blk k3v1n rfl _ _ (by rfl) (by rfl) (by (repeat first | with_reducible first | exact k3v1n | apply Blk.alloc | apply Blk.drew | refine Blk.far ?_ (by simp <;> omega) _ | refine Blk.turn ?_ ‹_› (by omega))) _ Tryz.underlying25 rfl (by kernel_rfl) ?_) | (refine wpList_store_blk k1v rfl _ _ _ (by rfl) _ (by rfl) (by rfl) (by repeat first | with_reducible first | exact k1v | apply Blk.alloc | apply Blk.drew | refine Blk.far ?_ (by simp <;> omega) _ | refine Blk.turn ?_ ‹_› (by omega)) (by rfl) (by kernel_rfl) (by simp [Value.oneCell']) ?_; intro wt k1vn ht))
             refine ret_blk2 rfl k1vn rfl Tryz.underlying25 rfl (by kernel_rfl) rfl ?_
             obtain rfl : (some ⟨3, 0, 0, [], 0⟩ : Option Vl) = O := HO.out
             exact ⟨by rfl, H.out.turnF rfl (H5.out.adv HL.out) ht (Nat.le_refl _), Gr.turnFar ((Gr.of (bstep hb3 hbv)).set 1 _) ht (Nat.le_refl _)⟩
           | false =>
             go_wp2_with fail
             refine (K3.out _ G2.out).mono ?_
             rintro e v2 ⟨rfl, hc2⟩
             have d2 : Below w2.heap.size w2 v2 := bstep d1 hc2
             have k3v2 := k3v1.step hc2
             have hsv2 : w2.heap.size < v2.heap.size := k3v2.lt
             have G3 := Lib.hid (G2.out.step hc2)
             cases N with
             | true =>
               go_upto_region 17 with fail
               have h5 := G3.out
               have k1v := HK1.out.step d2
               have hbs := (h5).blk; obtain ⟨hls, hlls, qs0, qs1, qs2, qs3, qs4, qs5, zs0, zs1, zs2, zs3, zs4, zs5⟩ := bf6 hbs; (try simp at qs0 qs1 qs2 qs3 qs4 qs5); have Hhbs := Lib.hid hbs; clear hbs
               clear h5
               go_wp2_with (first | (refine wpList_load_blk k3v2 rfl _ _ (by rfl) (by rfl) (by (repeat first | with_reducible first | exact k3v2 | apply Blk.alloc | apply Blk.drew | refine Blk.far ?_ (by simp <;> omega) _ | refine Blk.turn ?_ ‹_› (by omega))) _ Tryz.underlying25 rfl (by kernel_rfl) ?_) | (refine wpList_store_blk k1v rfl _ _ _ (by rfl) _ (by rfl) (by rfl) (by repeat first | with_reducible first | exact k1v | apply Blk.alloc | apply Blk.drew | refine Blk.far ?_ (by simp <;> omega) _ | refine Blk.turn ?_ ‹_› (by omega)) (by rfl) (by kernel_rfl) (by simp [Value.oneCell']) ?_; intro wt k1vn ht))
               refine ret_blk2 rfl k1vn rfl Tryz.underlying25 rfl (by kernel_rfl) rfl ?_
               obtain rfl : (some zeroV : Option Vl) = O := HO.out
               exact ⟨rfl, H.out.turnF rfl (G3.out.adv HL.out) ht (Nat.le_refl _), Gr.turnFar ((Gr.of (bstep hb3 d2)).set 1 _) ht (Nat.le_refl _)⟩
             | false =>
               have k1v := HK1.out.step d2
               go_wp2_with (first | (refine wpList_load_blk k3v2 rfl _ _ (by rfl) (by rfl) (by (repeat first | with_reducible first | exact k3v2 | apply Blk.alloc | apply Blk.drew | refine Blk.far ?_ (by simp <;> omega) _ | refine Blk.turn ?_ ‹_› (by omega))) _ Tryz.underlying25 rfl (by kernel_rfl) ?_) | (refine wpList_store_blk k1v rfl _ _ _ (by rfl) _ (by rfl) (by rfl) (by repeat first | with_reducible first | exact k1v | apply Blk.alloc | apply Blk.drew | refine Blk.far ?_ (by simp <;> omega) _ | refine Blk.turn ?_ ‹_› (by omega)) (by rfl) (by kernel_rfl) (by simp [Value.oneCell']) ?_; intro wt k1vn ht))
               refine ret_blk2 rfl k1vn rfl Tryz.underlying25 rfl (by kernel_rfl) rfl ?_
               obtain rfl : (none : Option Vl) = O := HO.out
               exact ⟨rfl, H.out.turnF rfl G3.out ht (Nat.le_refl _), Gr.turnFar (Gr.of (bstep hb3 d2)) ht (Nat.le_refl _)⟩
end Go.Proofs.YtapilekangmcoaaGreatDoor
namespace Go.Proofs.YtapilekangmcoaaGreatDoor
open Go.RowKit
theorem isS_iff {p : PS} {t : Tk} (he : p.e = 0) (ht : p.L[p.nx]? = some t) (s : Bs) : p.isS s = true ↔ (t.k = 4 ∨ t.k = 5) ∧ t.t = s := by
 rw [isS_some he ht]
 simp
theorem value_any (b : Nat) (A : Option Addr) (c : Nat) (p : PS) (w : World) (h : PB w b A c p) :
   Calls Tryz.prog 119 #[.pointer (some ⟨b, 0, none⟩)] w fun e w' => ValOut b A c p w p.val e w' := by
 by_cases he : p.e = 0
 · cases ht : p.L[p.nx]? with
   | none =>
     have hv : p.val = none := by unfold PS.val; rw [if_pos he, ht]
     rw [hv]
     refine (value_none b A c p w h (.inr (List.getElem?_eq_none_iff.1 ht))).mono ?_
     rintro e w' ⟨rfl, hb⟩
     exact ⟨rfl, h.step hb, .of hb⟩
   | some t =>
     have hv : p.val = valT t := by unfold PS.val; rw [if_pos he, ht]
     rw [hv]
     refine value_tok b A c p w h he t ht _ _ _ rfl rfl rfl _ ?_
     unfold valT
     simp only [isS_iff he ht]
 · have hv : p.val = none := by unfold PS.val; rw [if_neg he]
   rw [hv]
   refine (value_none b A c p w h (.inl he)).mono ?_
   rintro e w' ⟨rfl, hb⟩
   exact ⟨rfl, h.step hb, .of hb⟩
theorem fail_L (p : PS) (k : Int) : (p.fail k).L = p.L := by unfold PS.fail; split <;> rfl
theorem need_L (p : PS) (s : Bs) : (p.need s).L = p.L := by unfold PS.need; split <;> first | rfl | exact fail_L _ _
theorem take_no {p : PS} {s : Bs} (h : p.isS s = false) : p.take s = p := by unfold PS.take; rw [h]; rfl
theorem take_yes {p : PS} {s : Bs} (h : p.isS s = true) : p.take s = p.adv := by unfold PS.take; rw [h]; rfl
end Go.Proofs.YtapilekangmcoaaGreatDoor
namespace Go.Proofs.YtapilekangmcoaaGreatDoor
open Go.RowKit
theorem PB.md {w : World} {b : Nat} {A : Option Addr} {c : Nat} {p : PS} (h : PB w b A c p) (z : Int) : PB (w.setCell ⟨b, 5, none⟩ (.int .i64 z)) b A c { p with md := z } := by
 refine ⟨?_, h.tm.gr (b := b) ((Gr.refl _ _).set _ _) h.nb, h.nb, h.le, h.big⟩
 have := h.blk.set_ 5 (.int .i64 z)
 simpa using this
set_option maxHeartbeats 4000000 in
theorem emake_any (b : Nat) (A : Option Addr) (c : Nat) (p : PS) (o : Int) (B : Option Addr) (n cp : Nat) (w : World) (h : PB w b A c p) (h0 : 0 ≤ p.md) (h1 : p.md ≤ 200000) :
   Calls Tryz.prog 50 #[.pointer (some ⟨b, 0, none⟩), .int .i64 o, .slice B n cp] w fun e w' => e = .returned (.agg #[.int .i64 o, .int .i64 0, .int .i64 0, .int .i64 0, .string ⟨#[]⟩, .int .i64 0, .string ⟨#[]⟩, .slice B n cp]) ∧ PB w' b A c p.made ∧ Gr b w w' := by
 have hlw := h.blk.lt
 have hnx : IntKind.i64.wrap (p.md + 1) = p.md + 1 := IntWalk.i64_in _ (by omega)
 have H3 : Hid (PB ((w.setCell ⟨b, 5, none⟩ (.int .i64 (p.md + 1))).alloc (.cells #[.int .i64 0, .int .i64 0, .int .i64 0, .int .i64 0, .string ⟨#[]⟩, .int .i64 0, .string ⟨#[]⟩, .slice none 0 0] 33)) b A c { p with md := p.md + 1 }) := Lib.hid ((h.md (p.md + 1)).step (by (repeat' first | (with_reducible first | exact .refl _ _ | assumption | apply balloc | apply Below.drew | apply bset | refine bstep ?_ ‹_› | refine bturn ?_ ‹_› ?_) | go_size)))
 have K3 : Hid (Blk ((w.setCell ⟨b, 5, none⟩ (.int .i64 (p.md + 1))).alloc (.cells #[.int .i64 0, .int .i64 0, .int .i64 0, .int .i64 0, .string ⟨#[]⟩, .int .i64 0, .string ⟨#[]⟩, .slice none 0 0] 33)) w.heap.size 33 #[.int .i64 0, .int .i64 0, .int .i64 0, .int .i64 0, .string ⟨#[]⟩, .int .i64 0, .string ⟨#[]⟩, .slice none 0 0]) := Lib.hid (Blk.new' _ _ _ (by simp [World.setCell]))
 have G3 : Hid (Gr b w ((w.setCell ⟨b, 5, none⟩ (.int .i64 (p.md + 1))).alloc (.cells #[.int .i64 0, .int .i64 0, .int .i64 0, .int .i64 0, .string ⟨#[]⟩, .int .i64 0, .string ⟨#[]⟩, .slice none 0 0] 33))) := Lib.hid (((Gr.refl b w).set 5 (.int .i64 (p.md + 1))).alloc _)
 have H := Lib.hid h
 by_cases hg : 4096 < p.md + 1
 · have he : p.made = ({ p with md := p.md + 1 } : PS).fail 10 := by unfold PS.made; rw [if_pos hg]
   rw [he]
   have KF := Lib.hid (fun (W : World) (h : PB W b A c { p with md := p.md + 1 }) => fail_any b A c { p with md := p.md + 1 } 10 W h)
   have hbp := (h).blk; obtain ⟨hlp, hllp, qp0, qp1, qp2, qp3, qp4, qp5, zp0, zp1, zp2, zp3, zp4, zp5⟩ := bf6 hbp; (try simp at qp0 qp1 qp2 qp3 qp4 qp5); have Hhbp := Lib.hid hbp; clear hbp
   clear h he
   go_enter Tryz.func50, Tryz.ntmps50
   go_upto_region 3 with fail
   generalize (w.setCell ⟨b, 5, none⟩ (.int .i64 (p.md + 1))).alloc (.cells #[.int .i64 0, .int .i64 0, .int .i64 0, .int .i64 0, .string ⟨#[]⟩, .int .i64 0, .string ⟨#[]⟩, .slice none 0 0] 33) = w1 at *
   go_wp2_with fail
   refine (KF.out _ H3.out).mono ?_
   rintro e w2 ⟨rfl, h4, g4⟩
   have k4 := K3.out.gr g4 (by omega)
   go_wp2_with (refine wpList_store_blk k4 rfl _ _ _ (by rfl) _ (by rfl) (by rfl) (by repeat first | with_reducible first | exact k4 | apply Blk.alloc | apply Blk.drew | refine Blk.far ?_ (by simp <;> omega) _ | refine Blk.turn ?_ ‹_› (by omega)) (by rfl) (by kernel_rfl) (by simp [Value.oneCell']) ?_; intro wt k4n ht)
   refine ret_blk rfl k4n rfl Tryz.underlying33 rfl (by kernel_rfl) rfl ?_
   exact ⟨rfl, H.out.turnF (by rw [fail_L]) h4 ht (Nat.le_refl _), Gr.turnFar (G3.out.trans g4) ht (Nat.le_refl _)⟩
 · have he : p.made = { p with md := p.md + 1 } := by unfold PS.made; rw [if_neg hg]
   rw [he]
   have hbp := (h).blk; obtain ⟨hlp, hllp, qp0, qp1, qp2, qp3, qp4, qp5, zp0, zp1, zp2, zp3, zp4, zp5⟩ := bf6 hbp; (try simp at qp0 qp1 qp2 qp3 qp4 qp5); have Hhbp := Lib.hid hbp; clear hbp
   clear h he
   go_enter Tryz.func50, Tryz.ntmps50
   go_upto_region 4 with fail
   generalize (w.setCell ⟨b, 5, none⟩ (.int .i64 (p.md + 1))).alloc (.cells #[.int .i64 0, .int .i64 0, .int .i64 0, .int .i64 0, .string ⟨#[]⟩, .int .i64 0, .string ⟨#[]⟩, .slice none 0 0] 33) = w1 at *
   have k4 := K3.out
   go_wp2_with (refine wpList_store_blk k4 rfl _ _ _ (by rfl) _ (by rfl) (by rfl) (by repeat first | with_reducible first | exact k4 | apply Blk.alloc | apply Blk.drew | refine Blk.far ?_ (by simp <;> omega) _ | refine Blk.turn ?_ ‹_› (by omega)) (by rfl) (by kernel_rfl) (by simp [Value.oneCell']) ?_; intro wt k4n ht)
   refine ret_blk rfl k4n rfl Tryz.underlying33 rfl (by kernel_rfl) rfl ?_
   exact ⟨rfl, H.out.turnF rfl H3.out ht (Nat.le_refl _), Gr.turnFar G3.out ht (Nat.le_refl _)⟩
/-- A level of operators in memory: its signs at gs, its numbers at go. -/
structure LV (w : World) (g n gs gi : Nat) : Prop where
 c0 : w.cell? ⟨g, n * 3, none⟩ = some (.slice (some ⟨gs, 0, none⟩) (levelS n).1.length (levelS n).1.length)
 c1 : w.cell? ⟨g, n * 3 + 1, none⟩ = some (.slice (some ⟨gi, 0, none⟩) (levelS n).1.length (levelS n).1.length)
 c2 : w.cell? ⟨g, n * 3 + 2, none⟩ = some (.bool (levelS n).2)
 ss : SS w gs ((levelS n).1.map (·.1))
 is : ∀ i q, (levelS n).1[i]? = some q → w.cell? ⟨gi, i, none⟩ = some (.int .i64 q.2)
theorem LV.keep {w w' : World} {g n gs gi : Nat} (h : LV w g n gs gi) (hk : ∀ a v, w.cell? a = some v → (a.block = g ∨ a.block = gs ∨ a.block = gi) → w'.cell? a = some v) : LV w' g n gs gi :=
 ⟨hk _ _ h.c0 (.inl rfl), hk _ _ h.c1 (.inl rfl), hk _ _ h.c2 (.inl rfl), fun i l hl => hk _ _ (h.ss i l hl) (.inr (.inl rfl)), fun i q hq => hk _ _ (h.is i q hq) (.inr (.inr rfl))⟩
theorem LV.of {w : World} {g n gs gi : Nat} {T T2 T3 : TypeId} {row : Array Value} (hr : Blk w g T row) (h0 : row[n * 3]? = some (.slice (some ⟨gs, 0, none⟩) (levelS n).1.length (levelS n).1.length)) (h1 : row[n * 3 + 1]? = some (.slice (some ⟨gi, 0, none⟩) (levelS n).1.length (levelS n).1.length)) (h2 : row[n * 3 + 2]? = some (.bool (levelS n).2))
   (hs : Blk w gs T2 ((levelS n).1.map fun q => Value.string (bs q.1)).toArray) (hi : Blk w gi T3 ((levelS n).1.map fun q => Value.int .i64 q.2).toArray) : LV w g n gs gi := by
 refine ⟨(hr.cell _).trans h0, (hr.cell _).trans h1, (hr.cell _).trans h2, SS.of_blk (T := T2) (by rw [List.map_map]; exact hs), fun i q hq => ?_⟩
 rw [hi.cell, List.getElem?_toArray, List.getElem?_map, hq]
 rfl
/-- What is told of a function that answers levels, and where they lie. -/
def LVS (w w' : World) (g : Nat) : Prop := w.heap.size ≤ g ∧ ∀ n, n ≤ 4 → ∃ gs gi, w.heap.size ≤ gs ∧ w.heap.size ≤ gi ∧ LV w' g n gs gi
set_option maxHeartbeats 4000000 in
theorem levels_any (w : World) : Calls Tryz.prog 75 #[] w fun e w' => (∃ g, e = .returned (.slice (some ⟨g, 0, none⟩) 5 5) ∧ LVS w w' g) ∧ Below w.heap.size w w' := by
 go_enter Tryz.func75, Tryz.ntmps75
 go_wp2_with fail
 go_returns
 have hb0 : Below w.heap.size w w := Below.refl _ _
 refine ⟨⟨_, rfl, by omega, fun n hn => ?_⟩, by (repeat' first | (with_reducible first | exact .refl _ _ | assumption | apply balloc | apply Below.drew | apply bset | refine bstep ?_ ‹_› | refine bturn ?_ ‹_› ?_) | go_size)⟩
 match n, hn with
 | 0, _ =>
   refine ⟨_, _, ?_, ?_, LV.of (T2 := 9) (T3 := 3) (Blk.new' _ _ _ (by simp)) rfl rfl rfl ?_ ?_⟩
   case refine_3 =>
     iterate 10 refine Blk.alloc ?_ _
     exact Blk.new' _ _ _ (by simp)
   case refine_4 =>
     iterate 9 refine Blk.alloc ?_ _
     exact Blk.new' _ _ _ (by simp)
   all_goals omega
 | 1, _ =>
   refine ⟨_, _, ?_, ?_, LV.of (T2 := 9) (T3 := 3) (Blk.new' _ _ _ (by simp)) rfl rfl rfl ?_ ?_⟩
   case refine_3 =>
     iterate 8 refine Blk.alloc ?_ _
     exact Blk.new' _ _ _ (by simp)
   case refine_4 =>
     iterate 7 refine Blk.alloc ?_ _
     exact Blk.new' _ _ _ (by simp)
   all_goals omega
 | 2, _ =>
   refine ⟨_, _, ?_, ?_, LV.of (T2 := 9) (T3 := 3) (Blk.new' _ _ _ (by simp)) rfl rfl rfl ?_ ?_⟩
   case refine_3 =>
     iterate 6 refine Blk.alloc ?_ _
     exact Blk.new' _ _ _ (by simp)
   case refine_4 =>
     iterate 5 refine Blk.alloc ?_ _
     exact Blk.new' _ _ _ (by simp)
   all_goals omega
 | 3, _ =>
   refine ⟨_, _, ?_, ?_, LV.of (T2 := 9) (T3 := 3) (Blk.new' _ _ _ (by simp)) rfl rfl rfl ?_ ?_⟩
   case refine_3 =>
     iterate 4 refine Blk.alloc ?_ _
     exact Blk.new' _ _ _ (by simp)
   case refine_4 =>
     iterate 3 refine Blk.alloc ?_ _
     exact Blk.new' _ _ _ (by simp)
   all_goals omega
 | 4, _ =>
   refine ⟨_, _, ?_, ?_, LV.of (T2 := 9) (T3 := 3) (Blk.new' _ _ _ (by simp)) rfl rfl rfl ?_ ?_⟩
   case refine_3 =>
     iterate 2 refine Blk.alloc ?_ _
     exact Blk.new' _ _ _ (by simp)
   case refine_4 =>
     iterate 1 refine Blk.alloc ?_ _
     exact Blk.new' _ _ _ (by simp)
   all_goals omega
/-- Where the first sign stands that is next. -/
def fndR (p : PS) (L : List Bs) (r : Int) : Prop := (r < 0 ∧ ∀ (j : Nat) s, L[j]? = some s → p.isS s = false) ∨ ∃ (k : Nat) (s : Bs), r = (k : Int) ∧ L[k]? = some s ∧ p.isS s = true ∧ ∀ (j : Nat) s, j < k → L[j]? = some s → p.isS s = false
theorem find_walk (b : Nat) (A : Option Addr) (c : Nat) (p : PS) (g : Nat) (L : List Bs) (hL : L.length ≤ 1000) (w : World) (h : PB w b A c p) (hS : SS w g L) :
   Calls Tryz.prog 77 #[.slice (some ⟨g, 0, none⟩) L.length L.length, .func (.func 74) #[.pointer (some ⟨b, 0, none⟩)] #[]] w fun e w' => (∃ r : Int, e = .returned (.int .i64 r) ∧ fndR p L r) ∧ Below w.heap.size w w' := by
 have KI := Lib.hid (fun (l : Bs) (W : World) (hb : Below w.heap.size w W) => is_any b A c p l W (h.step hb))
 have HS := Lib.hid hS
 clear h hS
 go_enter Tryz.func77, Tryz.ntmps77
 go_wp2_with fail
 go_loopw [8] (fun i wr => ∃ k : Nat, k ≤ L.length ∧ i = .int .i64 (k : Int) ∧ Below w.heap.size w wr ∧ Hid (∀ (j : Nat) (s : Bs), j < k → L[j]? = some s → p.isS s = false)) (fun i _ => L.length - (intOf i).toNat)
 case atStart => exact ⟨0, by omega, rfl, Below.refl _ _, Lib.hid (fun j t h => absurd h (by omega))⟩
 case round =>
   obtain ⟨k, hk, rfl, hb, HQ⟩ := hrel
   by_cases hlt : k < L.length
   · obtain ⟨t, ht⟩ : ∃ t, L[k]? = some t := ⟨L[k], List.getElem?_eq_getElem hlt⟩
     have hki : (k : Int) < (L.length : Int) := by omega
     have hkn : IntKind.i64.wrap ((k : Int) + 1) = ((k + 1 : Nat) : Int) := by rw [IntWalk.i64_in _ (by omega)]; omega
     have c0 := keep1 hb (HS.out k t ht)
     have KP1 := Lib.hid (KI.out t)
     obtain ⟨r, hr⟩ : ∃ r, p.isS t = r := ⟨_, rfl⟩
     rw [hr] at KP1
     have HY : Hid (r = true → fndR p L (k : Int)) := Lib.hid (fun h => .inr ⟨k, t, rfl, ht, hr.trans h, HQ.out⟩)
     have HN : Hid (r = false → ∀ (j : Nat) (t : Bs), j < k + 1 → L[j]? = some t → p.isS t = false) := Lib.hid (fun h j u hj hu => by
       by_cases he : j = k
       · subst he
         rw [ht] at hu
         injection hu with hu
         rw [← hu, hr, h]
       · exact HQ.out j u (by omega) hu)
     obtain ⟨q, hq⟩ : ∃ q, bs t = q := ⟨_, rfl⟩
     rw [hq] at c0 KP1
     clear hr ht HQ hq
     go_wp2_with fail
     refine (KP1.out _ hb).mono ?_
     rintro e w2 ⟨rfl, hb2⟩
     clear c0
     cases r with
     | true =>
       go_wp2_with fail
       go_returns
       exact ⟨⟨k, rfl, HY.out (by simp)⟩, by (repeat' first | (with_reducible first | exact .refl _ _ | assumption | apply balloc | apply Below.drew | apply bset | refine bstep ?_ ‹_› | refine bturn ?_ ‹_› ?_) | go_size)⟩
     | false =>
       go_wp2_with fail
       go_roundw
       case rel => exact ⟨k + 1, by omega, by go_num, by (repeat' first | (with_reducible first | exact .refl _ _ | assumption | apply balloc | apply Below.drew | apply bset | refine bstep ?_ ‹_› | refine bturn ?_ ‹_› ?_) | go_size), Lib.hid (HN.out (by simp))⟩
       case measure => simp [intOf]; omega
   · obtain rfl : k = L.length := by omega
     have HN : Hid (fndR p L (-1)) := Lib.hid (.inl ⟨by decide, fun j s hj => HQ.out j s (List.getElem?_eq_some_iff.1 hj).1 hj⟩)
     clear hlt HQ
     go_wp2_with fail
     go_returns
     exact ⟨⟨-1, rfl, HN.out⟩, hb⟩
/-- What is found says which operator is next. -/
theorem find_oper {p : PS} {n : Nat} {r : Int} (h : fndR p ((levelS n).1.map (·.1)) r) : (r < 0 ∧ p.oper n = none) ∨ ∃ (k : Nat) (q : Bs × Int), r = (k : Int) ∧ (levelS n).1[k]? = some q ∧ p.isS q.1 = true ∧ p.oper n = some q.2 := by
 unfold PS.oper
 generalize (levelS n).1 = L at *
 rcases h with ⟨h1, h2⟩ | ⟨k, s, h1, h2, h3, h4⟩
 · refine .inl ⟨h1, ?_⟩
   rw [List.find?_eq_none.2 fun q hq => ?_]
   · rfl
   · obtain ⟨j, hj⟩ := List.mem_iff_getElem?.1 hq
     rw [h2 j q.1 (by rw [List.getElem?_map, hj]; rfl)]
     decide
 · rw [List.getElem?_map] at h2
   cases hq : L[k]? with
   | none => rw [hq] at h2; cases h2
   | some q =>
     rw [hq] at h2
     injection h2 with h2
     simp only at h2
     subst h2
     refine .inr ⟨k, q, h1, hq, h3, ?_⟩
     have : L.find? (fun g => p.isS g.1) = some q := by
       rw [List.find?_eq_some_iff_getElem]
       obtain ⟨hk, he⟩ := List.getElem?_eq_some_iff.1 hq
       refine ⟨h3, k, hk, he, fun j hj => ?_⟩
       rw [h4 j L[j].1 hj (by rw [List.getElem?_map, List.getElem?_eq_getElem (by omega)]; rfl)]
       rfl
     rw [this]
     rfl
end Go.Proofs.YtapilekangmcoaaGreatDoor
namespace Go.Proofs.YtapilekangmcoaaGreatDoor
open Go.RowKit
theorem XM.cells {S : Nat → Prop} {w : World} {x : Ex} {cs : Array Value} (h : XM S w x cs) : ∃ (o k n s : Int) (q : ByteArray) (m : Int) (r : ByteArray) (B : Option Addr) (l c : Nat), cs = #[.int .i64 o, .int .i64 k, .int .i64 n, .int .i64 s, .string q, .int .i64 m, .string r, .slice B l c] := by
 obtain ⟨A, c, rfl⟩ := h.get
 exact ⟨_, _, _, _, _, _, _, _, _, _, rfl⟩
theorem put_none (a : Act) : a.put none undef = a := rfl
/-- A kid's blocks lie below the world's size. -/
theorem XM.top {S : Nat → Prop} {w : World} {x : Ex} {cs : Array Value} (h : XM S w x cs) {n : Nat} (hn : w.heap.size ≤ n) : XM (fun g => S g ∧ g < n) w x cs := h.mono fun _ hs hg => ⟨hs, Nat.lt_of_lt_of_le hg hn⟩
theorem PB.drewN {w : World} {b : Nat} {A : Option Addr} {c : Nat} {p : PS} (h : PB w b A c p) (n : Nat) : PB (w.drewN n) b A c p := ⟨h.blk.drewN n, h.tm, h.nb, h.le, h.big⟩
theorem XM.drew {S : Nat → Prop} {w : World} {x : Ex} {cs : Array Value} (h : XM S w x cs) : XM S w.drew x cs := h.keep fun _ _ _ => rfl
theorem XM.drewN {S : Nat → Prop} {w : World} {x : Ex} {cs : Array Value} (h : XM S w x cs) (n : Nat) : XM S (w.drewN n) x cs := h.keep fun _ _ _ => rfl
theorem set8 {w : World} {g : Nat} {T : TypeId} {a0 a1 a2 a3 a4 a5 a6 a7 : Value} (h : Blk w g T #[a0, a1, a2, a3, a4, a5, a6, a7]) (b0 b1 b2 b3 b4 b5 b6 b7 : Value) : Blk ((((((((w.setCell ⟨g, 0, none⟩ b0).setCell ⟨g, 1, none⟩ b1).setCell ⟨g, 2, none⟩ b2).setCell ⟨g, 3, none⟩ b3).setCell ⟨g, 4, none⟩ b4).setCell ⟨g, 5, none⟩ b5).setCell ⟨g, 6, none⟩ b6).setCell ⟨g, 7, none⟩ b7) g T #[b0, b1, b2, b3, b4, b5, b6, b7] ∧ Turned w ((((((((w.setCell ⟨g, 0, none⟩ b0).setCell ⟨g, 1, none⟩ b1).setCell ⟨g, 2, none⟩ b2).setCell ⟨g, 3, none⟩ b3).setCell ⟨g, 4, none⟩ b4).setCell ⟨g, 5, none⟩ b5).setCell ⟨g, 6, none⟩ b6).setCell ⟨g, 7, none⟩ b7) g := by
 refine ⟨?_, ?_⟩
 · have := (((((((h.set_ 0 b0).set_ 1 b1).set_ 2 b2).set_ 3 b3).set_ 4 b4).set_ 5 b5).set_ 6 b6).set_ 7 b7
   simpa using this
 · exact (((((((Turned.setCell _ _ _ _).trans (Turned.setCell _ _ _ _)).trans (Turned.setCell _ _ _ _)).trans (Turned.setCell _ _ _ _)).trans (Turned.setCell _ _ _ _)).trans (Turned.setCell _ _ _ _)).trans (Turned.setCell _ _ _ _)).trans (Turned.setCell _ _ _ _)
/-- How a call that reads an expression ends. -/
def EOut (b : Nat) (A : Option Addr) (c : Nat) (w w' : World) (r : Ex × PS) (e : Ending) : Prop :=
 (∃ cs, e = .returned (.agg cs) ∧ XM (fun g => w.heap.size ≤ g) w' r.1 cs) ∧ PB w' b A c r.2 ∧ Gr b w w'
def ExprC (f : Nat) : Prop := ∀ (b : Nat) (A : Option Addr) (c : Nat) (p : PS) (d k : Nat) (w : World), PB w b A c p → Rm 0 k p → 8 * k + 8 ≤ f → d + k ≤ 200000 →
 Calls Tryz.prog 25 #[.pointer (some ⟨b, 0, none⟩), .int .i64 (d : Int)] w fun e w' => EOut b A c w w' (exprF wordB f p d) e
def ChainC (f : Nat) : Prop := ∀ (b : Nat) (A : Option Addr) (c : Nat) (p : PS) (d n k : Nat) (w : World), PB w b A c p → Rm 0 k p → n ≤ 5 → 8 * k + 7 ≤ f + n → d + k ≤ 200000 →
 Calls Tryz.prog 48 #[.pointer (some ⟨b, 0, none⟩), .int .i64 (d : Int), .int .i64 (n : Int)] w fun e w' => EOut b A c w w' (chainF wordB f p d n) e
def PrefC (f : Nat) : Prop := ∀ (b : Nat) (A : Option Addr) (c : Nat) (p : PS) (d k : Nat) (w : World), PB w b A c p → Rm 0 k p → 8 * k + 1 ≤ f → d + k ≤ 200000 →
 Calls Tryz.prog 76 #[.pointer (some ⟨b, 0, none⟩), .int .i64 (d : Int)] w fun e w' => EOut b A c w w' (prefixF wordB f p d) e
end Go.Proofs.YtapilekangmcoaaGreatDoor
namespace Go.Proofs.YtapilekangmcoaaGreatDoor
open Go.RowKit
theorem expr_else {f : Nat} {p : PS} {d : Nat} (h : ¬ ((p.deep d).e = 0 ∧ (p.deep d).isS bIf = true)) : exprF wordB (f + 1) p d = chainF wordB f (p.deep d) d 0 := by
 rw [exprF, if_neg h]
theorem deep_lo {p : PS} {d : Nat} (h : ¬ 64 < d) : p.deep d = p := by unfold PS.deep; rw [if_neg h]
theorem deep_hi {p : PS} {d : Nat} (h : 64 < d) : p.deep d = p.fail 9 ∧ ¬ (p.fail 9).e = 0 := by
 unfold PS.deep
 rw [if_pos h]
 exact ⟨rfl, fail_e (by decide)⟩
set_option maxHeartbeats 4000000 in
/-- Behind the call of chain. -/
theorem expr_1 (b : Nat) (A : Option Addr) (c : Nat) (p q : PS) (r : Ex × PS) (d : Nat) (w : World) (h : PB w b A c p) (hw : (64 < d ∧ p.fail 9 = q) ∨ (¬ 64 < d ∧ ¬ p.e = 0 ∧ p = q) ∨ (¬ 64 < d ∧ p.e = 0 ∧ p.isS bIf = false ∧ p = q)) (hr : r.2.L = p.L)
   (KC : Hid (∀ W, PB W b A c q → Calls Tryz.prog 48 #[.pointer (some ⟨b, 0, none⟩), .int .i64 (d : Int), .int .i64 0] W fun e w' => EOut b A c W w' r e)) :
   Calls Tryz.prog 25 #[.pointer (some ⟨b, 0, none⟩), .int .i64 (d : Int)] w fun e w' => EOut b A c w w' r e := by
 have hlw := h.blk.lt
 have k0 : Blk (w.alloc (.cells #[.int .i64 0, .int .i64 0, .int .i64 0, .int .i64 0, .string ⟨#[]⟩, .int .i64 0, .string ⟨#[]⟩, .slice none 0 0] 33)) w.heap.size 33 #[.int .i64 0, .int .i64 0, .int .i64 0, .int .i64 0, .string ⟨#[]⟩, .int .i64 0, .string ⟨#[]⟩, .slice none 0 0] := Blk.new _ _ _
 have hA : Below w.heap.size w (w.alloc (.cells #[.int .i64 0, .int .i64 0, .int .i64 0, .int .i64 0, .string ⟨#[]⟩, .int .i64 0, .string ⟨#[]⟩, .slice none 0 0] 33)) := by (repeat' first | (with_reducible first | exact .refl _ _ | assumption | apply balloc | apply Below.drew | apply bset | refine bstep ?_ ‹_› | refine bturn ?_ ‹_› ?_) | go_size)
 have H1 := Lib.hid (h.step hA)
 have K0 := Lib.hid k0
 have G1 := Lib.hid (Gr.of hA : Gr b w _)
 have hs1 : (w.alloc (.cells #[.int .i64 0, .int .i64 0, .int .i64 0, .int .i64 0, .string ⟨#[]⟩, .int .i64 0, .string ⟨#[]⟩, .slice none 0 0] 33)).heap.size = w.heap.size + 1 := by simp
 have HS1 := Lib.hid hs1
 have H := Lib.hid h
 have HR := Lib.hid hr
 have tail : Hid (∀ (w1 w2 : World) (cs : Array Value), w.heap.size + 1 ≤ w1.heap.size → XM (fun g => w1.heap.size ≤ g) w2 r.1 cs → XM (fun g => w.heap.size + 1 ≤ g) w2 r.1 cs) := Lib.hid fun w1 w2 cs h1 hx => hx.mono fun g hg _ => by omega
 rcases hw with ⟨hd, rfl⟩ | ⟨hd, he, rfl⟩ | ⟨hd, he, hi, rfl⟩
 · have hdi : (64 : Int) < (d : Int) := by omega
   have KF := Lib.hid (fun (W : World) (h : PB W b A c p) => fail_any b A c p 9 W h)
   have hne : ((p.fail 9).e != 0) = true := by simpa using (deep_hi (p := p) hd).2
   have HNE := Lib.hid hne
   clear h k0 hA hs1 hr hne hd
   go_enter Tryz.func25, Tryz.ntmps25
   go_upto_region 2 with fail
   generalize (w.alloc (.cells #[.int .i64 0, .int .i64 0, .int .i64 0, .int .i64 0, .string ⟨#[]⟩, .int .i64 0, .string ⟨#[]⟩, .slice none 0 0] 33)) = w1 at *
   go_wp2_with fail
   refine (KF.out _ H1.out).mono ?_
   rintro e w2 ⟨rfl, h2, g2⟩
   have k2 := K0.out.gr g2 (by omega)
   have hz2 := g2.size
   have hz1 := HS1.out
   have hne := HNE.out
   obtain ⟨q, hq⟩ : ∃ q, p.fail 9 = q := ⟨_, rfl⟩
   rw [hq] at hne h2 KC
   have H2 := Lib.hid h2
   have K2 := Lib.hid k2
   clear k2 hq HNE KF
   have hbp := (h2).blk; obtain ⟨hlp, hllp, qp0, qp1, qp2, qp3, qp4, qp5, zp0, zp1, zp2, zp3, zp4, zp5⟩ := bf6 hbp; (try simp at qp0 qp1 qp2 qp3 qp4 qp5); have Hhbp := Lib.hid hbp; clear hbp
   clear h2
   go_wp2_with fail
   refine (KC.out _ H2.out).mono ?_
   rintro e w3 ⟨⟨cs, rfl, hx⟩, h3, g3⟩
   have hx2 := tail.out _ _ _ (by omega) hx
   have k3 := K2.out.gr g3 (by omega)
   obtain ⟨o, k, n, s, q2, m, r2, B, l, cc, rfl⟩ := hx.cells
   clear qp0 zp0 qp1 zp1 qp2 zp2 qp3 zp3 qp4 zp4 qp5 zp5 hlp hllp Hhbp
   go_wp2_with (refine wpList_store_blk k3 rfl _ _ _ (by rfl) _ (by rfl) (by rfl) (by repeat first | with_reducible first | exact k3 | apply Blk.alloc | apply Blk.drew | refine Blk.far ?_ (by simp <;> omega) _ | refine Blk.turn ?_ ‹_› (by omega)) (by rfl) (by kernel_rfl) (by simp [Value.oneCell']) ?_; intro wt k3n ht)
   refine ret_blk rfl k3n rfl Tryz.underlying33 rfl (by kernel_rfl) rfl ?_
   exact ⟨⟨_, rfl, (hx2.turn ht fun g hg => by omega).mono fun g hg _ => by omega⟩, H.out.turnF HR.out.symm h3 ht (Nat.le_refl _), Gr.turnFar ((G1.out.trans g2).trans g3) ht (Nat.le_refl _)⟩
 · have hdi : ¬ (64 : Int) < (d : Int) := by omega
   have hne : (p.e != 0) = true := by simpa using he
   have h1 := H1.out
   clear h k0 hA hs1 hr hd he
   go_enter Tryz.func25, Tryz.ntmps25
   go_upto_region 3 with fail
   generalize (w.alloc (.cells #[.int .i64 0, .int .i64 0, .int .i64 0, .int .i64 0, .string ⟨#[]⟩, .int .i64 0, .string ⟨#[]⟩, .slice none 0 0] 33)) = w1 at *
   have hz1 := HS1.out
   have hbp := (h1).blk; obtain ⟨hlp, hllp, qp0, qp1, qp2, qp3, qp4, qp5, zp0, zp1, zp2, zp3, zp4, zp5⟩ := bf6 hbp; (try simp at qp0 qp1 qp2 qp3 qp4 qp5); have Hhbp := Lib.hid hbp; clear hbp
   clear h1
   go_wp2_with fail
   refine (KC.out _ H1.out).mono ?_
   rintro e w3 ⟨⟨cs, rfl, hx⟩, h3, g3⟩
   have hx2 := tail.out _ _ _ (by omega) hx
   have k3 := K0.out.gr g3 (by omega)
   obtain ⟨o, k, n, s, q2, m, r2, B, l, cc, rfl⟩ := hx.cells
   clear qp0 zp0 qp1 zp1 qp2 zp2 qp3 zp3 qp4 zp4 qp5 zp5 hlp hllp Hhbp
   go_wp2_with (refine wpList_store_blk k3 rfl _ _ _ (by rfl) _ (by rfl) (by rfl) (by repeat first | with_reducible first | exact k3 | apply Blk.alloc | apply Blk.drew | refine Blk.far ?_ (by simp <;> omega) _ | refine Blk.turn ?_ ‹_› (by omega)) (by rfl) (by kernel_rfl) (by simp [Value.oneCell']) ?_; intro wt k3n ht)
   refine ret_blk rfl k3n rfl Tryz.underlying33 rfl (by kernel_rfl) rfl ?_
   exact ⟨⟨_, rfl, (hx2.turn ht fun g hg => by omega).mono fun g hg _ => by omega⟩, H.out.turnF HR.out.symm h3 ht (Nat.le_refl _), Gr.turnFar (G1.out.trans g3) ht (Nat.le_refl _)⟩
 · have hdi : ¬ (64 : Int) < (d : Int) := by omega
   have KT := Lib.hid (fun (W : World) (h : PB W b A c p) => take_any b A c p bIf W h)
   rw [hi, take_no hi] at KT
   have h1 := H1.out
   have HE := Lib.hid he
   clear h k0 hA hs1 hr hd hi he
   go_enter Tryz.func25, Tryz.ntmps25
   go_upto_region 3 with fail
   generalize (w.alloc (.cells #[.int .i64 0, .int .i64 0, .int .i64 0, .int .i64 0, .string ⟨#[]⟩, .int .i64 0, .string ⟨#[]⟩, .slice none 0 0] 33)) = w1 at *
   have hz1 := HS1.out
   have hbp := (h1).blk; obtain ⟨hlp, hllp, qp0, qp1, qp2, qp3, qp4, qp5, zp0, zp1, zp2, zp3, zp4, zp5⟩ := bf6 hbp; (try simp at qp0 qp1 qp2 qp3 qp4 qp5); have Hhbp := Lib.hid hbp; clear hbp
   rw [HE.out] at qp4
   clear h1
   go_wp2_with fail
   refine (KT.out _ H1.out).mono ?_
   rintro e w2 ⟨rfl, h2, g2⟩
   have k2 := K0.out.gr g2 (by omega)
   have hz2 := g2.size
   have K2 := Lib.hid k2
   clear k2
   clear qp0 zp0 qp1 zp1 qp2 zp2 qp3 zp3 qp4 zp4 qp5 zp5 hlp hllp Hhbp
   go_wp2_with fail
   refine (KC.out _ h2).mono ?_
   rintro e w3 ⟨⟨cs, rfl, hx⟩, h3, g3⟩
   have hx2 := tail.out _ _ _ (by omega) hx
   have k3 := K2.out.gr g3 (by omega)
   obtain ⟨o, k, n, s, q2, m, r2, B, l, cc, rfl⟩ := hx.cells
   go_wp2_with (refine wpList_store_blk k3 rfl _ _ _ (by rfl) _ (by rfl) (by rfl) (by repeat first | with_reducible first | exact k3 | apply Blk.alloc | apply Blk.drew | refine Blk.far ?_ (by simp <;> omega) _ | refine Blk.turn ?_ ‹_› (by omega)) (by rfl) (by kernel_rfl) (by simp [Value.oneCell']) ?_; intro wt k3n ht)
   refine ret_blk rfl k3n rfl Tryz.underlying33 rfl (by kernel_rfl) rfl ?_
   exact ⟨⟨_, rfl, (hx2.turn ht fun g hg => by omega).mono fun g hg _ => by omega⟩, H.out.turnF HR.out.symm h3 ht (Nat.le_refl _), Gr.turnFar ((G1.out.trans g2).trans g3) ht (Nat.le_refl _)⟩
end Go.Proofs.YtapilekangmcoaaGreatDoor
namespace Go.Proofs.YtapilekangmcoaaGreatDoor
open Go.RowKit
theorem set5 {w : World} {g : Nat} {T : TypeId} {a0 a1 a2 a3 a4 a5 a6 a7 : Value} (h : Blk w g T #[a0, a1, a2, a3, a4, a5, a6, a7]) (b1 b2 b3 b4 b5 : Value) : Blk (((((w.setCell ⟨g, 1, none⟩ b1).setCell ⟨g, 2, none⟩ b2).setCell ⟨g, 3, none⟩ b3).setCell ⟨g, 4, none⟩ b4).setCell ⟨g, 5, none⟩ b5) g T #[a0, b1, b2, b3, b4, b5, a6, a7] ∧ Turned w (((((w.setCell ⟨g, 1, none⟩ b1).setCell ⟨g, 2, none⟩ b2).setCell ⟨g, 3, none⟩ b3).setCell ⟨g, 4, none⟩ b4).setCell ⟨g, 5, none⟩ b5) g := by
 refine ⟨?_, ?_⟩
 · have := ((((h.set_ 1 b1).set_ 2 b2).set_ 3 b3).set_ 4 b4).set_ 5 b5
   simpa using this
 · exact ((((Turned.setCell _ _ _ _).trans (Turned.setCell _ _ _ _)).trans (Turned.setCell _ _ _ _)).trans (Turned.setCell _ _ _ _)).trans (Turned.setCell _ _ _ _)
theorem ccellsV_eq {k n s m : Int} {t : Bs} {q : ByteArray} (h : bs t = q) : cellsV ⟨k, n, s, t, m⟩ = #[.int .i64 k, .int .i64 n, .int .i64 s, .string q, .int .i64 m] := by subst h; rfl
theorem pref_4 (b : Nat) (A : Option Addr) (c : Nat) (p : PS) (vk vn vs vm : Int) (vt : Bs) (d : Nat) (w : World) (h : PB w b A c p) (he : p.e = 0) (hn : p.isS [45] = false) (hn2 : p.isS [40] = false) (hn3 : p.isS bNot = false) (hv : p.val = some ⟨vk, vn, vs, vt, vm⟩) (hm0 : 0 ≤ p.md) (hm1 : p.md ≤ 200000) :
   Calls Tryz.prog 76 #[.pointer (some ⟨b, 0, none⟩), .int .i64 (d : Int)] w fun e w' => EOut b A c w w' (.mk 1 ⟨vk, vn, vs, vt, vm⟩ [] [], p.adv.made) e := by
 have hlw := h.blk.lt
 have k0 : Blk (w.alloc (.cells #[.int .i64 0, .int .i64 0, .int .i64 0, .int .i64 0, .string ⟨#[]⟩, .int .i64 0, .string ⟨#[]⟩, .slice none 0 0] 33)) w.heap.size 33 #[.int .i64 0, .int .i64 0, .int .i64 0, .int .i64 0, .string ⟨#[]⟩, .int .i64 0, .string ⟨#[]⟩, .slice none 0 0] := Blk.new _ _ _
 have hA : Below w.heap.size w (w.alloc (.cells #[.int .i64 0, .int .i64 0, .int .i64 0, .int .i64 0, .string ⟨#[]⟩, .int .i64 0, .string ⟨#[]⟩, .slice none 0 0] 33)) := by (repeat' first | (with_reducible first | exact .refl _ _ | assumption | apply balloc | apply Below.drew | apply bset | refine bstep ?_ ‹_› | refine bturn ?_ ‹_› ?_) | go_size)
 have H1 := Lib.hid (h.step hA)
 have K0 := Lib.hid k0
 have G1 := Lib.hid (Gr.of hA : Gr b w _)
 have HS1 : Hid ((w.alloc (.cells #[.int .i64 0, .int .i64 0, .int .i64 0, .int .i64 0, .string ⟨#[]⟩, .int .i64 0, .string ⟨#[]⟩, .slice none 0 0] 33)).heap.size = w.heap.size + 1) := Lib.hid (by simp)
 have H := Lib.hid h
 have h1 := H1.out
 have KT0 := Lib.hid (fun (W : World) (h : PB W b A c p) => take_any b A c p [45] W h)
 have KT1 := Lib.hid (fun (W : World) (h : PB W b A c p) => take_any b A c p [40] W h)
 have KT2 := Lib.hid (fun (W : World) (h : PB W b A c p) => take_any b A c p bNot W h)
 rw [hn, take_no hn] at KT0
 rw [hn2, take_no hn2] at KT1
 rw [hn3, take_no hn3] at KT2
 have HE := Lib.hid he
 have KV := Lib.hid (fun (W : World) (h : PB W b A c p) => value_any b A c p W h)
 rw [hv] at KV
 have KM := Lib.hid (fun (B : Option Addr) (n cp : Nat) (W : World) (h : PB W b A c p.adv) => emake_any b A c p.adv 1 B n cp W h hm0 hm1)
 have HR : Hid (p.adv.made.L = p.L) := Lib.hid ((made_L _).trans rfl)
 obtain ⟨q, hq⟩ : ∃ q, bs vt = q := ⟨_, rfl⟩
 have hcv : cellsV ⟨vk, vn, vs, vt, vm⟩ = #[.int .i64 vk, .int .i64 vn, .int .i64 vs, .string q, .int .i64 vm] := ccellsV_eq hq
 have KV2 : Hid (∀ W, PB W b A c p → Calls Tryz.prog 119 #[.pointer (some ⟨b, 0, none⟩)] W fun e w' => e = .returned (.tuple #[.agg #[.int .i64 vk, .int .i64 vn, .int .i64 vs, .string q, .int .i64 vm], .bool true]) ∧ PB w' b A c p.adv ∧ Gr b W w') := Lib.hid (fun W h => by rw [← hcv]; exact KV.out W h)
 obtain ⟨pa, hpa⟩ : ∃ q, p.adv = q := ⟨_, rfl⟩
 rw [hpa] at KM HR KV2
 rw [hpa]
 have HQ := Lib.hid hq
 clear h k0 hA hn hn2 hn3 he hv hm0 hm1 hq hcv KV hpa
 go_enter Tryz.func76, Tryz.ntmps76
 go_upto_region 1 with fail
 generalize (w.alloc (.cells #[.int .i64 0, .int .i64 0, .int .i64 0, .int .i64 0, .string ⟨#[]⟩, .int .i64 0, .string ⟨#[]⟩, .slice none 0 0] 33)) = w1 at *
 have hz1 := HS1.out
 have hbp := (h1).blk; obtain ⟨hlp, hllp, qp0, qp1, qp2, qp3, qp4, qp5, zp0, zp1, zp2, zp3, zp4, zp5⟩ := bf6 hbp; (try simp at qp0 qp1 qp2 qp3 qp4 qp5); have Hhbp := Lib.hid hbp; clear hbp
 rw [HE.out] at qp4
 clear h1
 go_wp2_with fail
 refine (KT0.out _ H1.out).mono ?_
 rintro e w2 ⟨rfl, h2, g2⟩
 have hz2 := g2.size
 have K2 := Lib.hid (K0.out.gr g2 (by omega))
 have G2 := Lib.hid (G1.out.trans g2)
 clear qp0 zp0 qp1 zp1 qp2 zp2 qp3 zp3 qp4 zp4 qp5 zp5 hlp hllp Hhbp
 go_wp2_with fail
 refine (KT1.out _ h2).mono ?_
 rintro e w3 ⟨rfl, h3, g3⟩
 have hz3 := g3.size
 have K3 := Lib.hid (K2.out.gr g3 (by omega))
 have G3 := Lib.hid (G2.out.trans g3)
 clear h2
 go_wp2_with fail
 refine (KT2.out _ h3).mono ?_
 rintro e w4 ⟨rfl, h4, g4⟩
 have hz4 := g4.size
 have K4 := Lib.hid (K3.out.gr g4 (by omega))
 have G4 := Lib.hid (G3.out.trans g4)
 clear h3
 clear g2 g3 g4 KT0 KT1 KT2
 go_wp2_with fail
 refine (KV2.out _ h4).mono ?_
 rintro e w5 ⟨rfl, h5, g5⟩
 have hz5 := g5.size
 have K5 := Lib.hid (K4.out.gr g5 (by omega))
 have G5 := Lib.hid (G4.out.trans g5)
 have HP5 := Lib.hid h5
 have kv : Blk (w5.alloc (.cells #[.int .i64 0, .int .i64 0, .int .i64 0, .string ⟨#[]⟩, .int .i64 0] 25)) w5.heap.size 25 #[.int .i64 0, .int .i64 0, .int .i64 0, .string ⟨#[]⟩, .int .i64 0] := Blk.new _ _ _
 clear h4 h5 g5 KV2
 go_upto_region 15 with (refine wpList_store_blk kv rfl _ _ _ (by rfl) _ (by rfl) (by rfl) (by repeat first | with_reducible first | exact kv | apply Blk.alloc | apply Blk.drew | refine Blk.far ?_ (by simp <;> omega) _ | refine Blk.turn ?_ ‹_› (by omega)) (by rfl) (by kernel_rfl) (by simp [Value.oneCell']) ?_; intro wt kvn ht)
 have hb6 : Below w5.heap.size w5 wt := bturn (balloc (Below.refl _ _) _) ht (Nat.le_refl _)
 have K6 := Lib.hid (K5.out.step hb6)
 have KV6 := Lib.hid kvn
 have hz6 : w5.heap.size < wt.heap.size := kvn.lt
 have h6 := HP5.out.step hb6
 have G6 := Lib.hid (G5.out.bstep hb6)
 clear kv kvn HP5 G5 hb6 ht
 go_wp2_with fail
 refine (KM.out _ _ _ _ h6).mono ?_
 rintro e w7 ⟨rfl, h7, g7⟩
 have hz7 := g7.size
 have K7 := Lib.hid (K6.out.gr g7 (by omega))
 have KV7 := Lib.hid (KV6.out.gr g7 (by omega))
 have G7 := Lib.hid (G6.out.trans g7)
 have HP7 := Lib.hid h7
 have kn : Blk (w7.alloc (.cells #[.int .i64 0, .int .i64 0, .int .i64 0, .int .i64 0, .string ⟨#[]⟩, .int .i64 0, .string ⟨#[]⟩, .slice none 0 0] 33)) w7.heap.size 33 #[.int .i64 0, .int .i64 0, .int .i64 0, .int .i64 0, .string ⟨#[]⟩, .int .i64 0, .string ⟨#[]⟩, .slice none 0 0] := Blk.new _ _ _
 clear h6 h7 g7 KM
 go_upto_region 17 with (refine wpList_store_blk kn rfl _ _ _ (by rfl) _ (by rfl) (by rfl) (by repeat first | with_reducible first | exact kn | apply Blk.alloc | apply Blk.drew | refine Blk.far ?_ (by simp <;> omega) _ | refine Blk.turn ?_ ‹_› (by omega)) (by rfl) (by kernel_rfl) (by simp [Value.oneCell']) ?_; intro wt knn ht)
 have hb8 : Below w7.heap.size w7 wt := bturn (balloc (Below.refl _ _) _) ht (Nat.le_refl _)
 have K8 := Lib.hid (K7.out.step hb8)
 have kv8 := KV7.out.step hb8
 have KN8 := Lib.hid knn
 have hz8 : w7.heap.size < wt.heap.size := knn.lt
 have HP8 := Lib.hid (HP7.out.step hb8)
 have G8 := Lib.hid (G7.out.bstep hb8)
 have kn8 := KN8.out
 clear kn knn HP7 G7 hb8 ht
 obtain ⟨hlv, hllv, qv0, qv1, qv2, qv3, qv4, zv0, zv1, zv2, zv3, zv4⟩ := bf5 kv8; (try simp at qv0 qv1 qv2 qv3 qv4); have Hkv8 := Lib.hid kv8; clear kv8
 obtain ⟨hln, hlln, qn0, qn1, qn2, qn3, qn4, qn5, qn6, qn7, zn0, zn1, zn2, zn3, zn4, zn5, zn6, zn7⟩ := bf8 kn8; (try simp at qn0 qn1 qn2 qn3 qn4 qn5 qn6 qn7); have Hkn8 := Lib.hid kn8; clear kn8
 go_upto_region 18 with fail
 obtain ⟨e1, e2⟩ := set5 KN8.out (.int .i64 vk) (.int .i64 vn) (.int .i64 vs) (.string q) (.int .i64 vm)
 clear qv0 qv1 qv2 qv3 qv4 zv0 zv1 zv2 zv3 zv4 hlv hllv qn0 qn1 qn2 qn3 qn4 qn5 qn6 qn7 zn0 zn1 zn2 zn3 zn4 zn5 zn6 zn7 hln hlln
 generalize (((((wt.setCell ⟨w7.heap.size, 1, none⟩ (.int .i64 vk)).setCell ⟨w7.heap.size, 2, none⟩ (.int .i64 vn)).setCell ⟨w7.heap.size, 3, none⟩ (.int .i64 vs)).setCell ⟨w7.heap.size, 4, none⟩ (.string q)).setCell ⟨w7.heap.size, 5, none⟩ (.int .i64 vm)) = w9 at *
 have k9 := K8.out.turn e2 (by omega)
 have h9 : PB w9 b A c pa.made := H.out.turnF HR.out.symm HP8.out e2 (by omega)
 have g9 : Gr b w w9 := Gr.turnFar G8.out e2 (by omega)
 have H9 := Lib.hid h9
 have G9 := Lib.hid g9
 clear h9 g9 e2
 go_wp2_with (first | (refine wpList_load_blk e1 rfl _ _ (by rfl) (by rfl) (by (repeat first | with_reducible first | exact e1 | apply Blk.alloc | apply Blk.drew | refine Blk.far ?_ (by simp <;> omega) _ | refine Blk.turn ?_ ‹_› (by omega))) _ Tryz.underlying33 rfl (by kernel_rfl) ?_) | (refine wpList_store_blk k9 rfl _ _ _ (by rfl) _ (by rfl) (by rfl) (by repeat first | with_reducible first | exact k9 | apply Blk.alloc | apply Blk.drew | refine Blk.far ?_ (by simp <;> omega) _ | refine Blk.turn ?_ ‹_› (by omega)) (by rfl) (by kernel_rfl) (by simp [Value.oneCell']) ?_; intro wt k9n ht))
 refine ret_blk rfl k9n rfl Tryz.underlying33 rfl (by kernel_rfl) rfl ?_
 exact ⟨⟨_, rfl, by rw [← HQ.out]; exact XM.nil none 0⟩, H.out.turnF HR.out.symm H9.out ht (Nat.le_refl _), Gr.turnFar G9.out ht (Nat.le_refl _)⟩
end Go.Proofs.YtapilekangmcoaaGreatDoor
namespace Go.Proofs.YtapilekangmcoaaGreatDoor
open Go.ChangeShapes Go.WideShapes Go.ChangeAt Go.RowKit Go.Deep Go.Shelf
theorem cells_val : Tryz.prog.cellsOf 25 = 5 := by kernel_rfl
section
variable {H : Type} {enc : TypeId × Value → H} {w : World} {base : Nat} {spare : Nat → Bool} {held : Bool}
theorem val_shape {fuel : Nat} {cs : List Value} {x : DataW H × List MemPlace} (h : DataW.trod enc Tryz.prog w base spare held fuel 25 cs = some x) : ∃ v : Vl, cs = (cellsV v).toList ∧ I64 v.k ∧ VOk v ∧ v.t.length ≤ maxLen := by
 obtain ⟨xs, n, _, _, hl, hxl, hf⟩ := DataW.trod_struct Tryz.underlying25 h
 rw [cells_val] at hl
 match cs, hl with
 | [c0, c1, c2, c3, c4], _ =>
   match xs, hxl with
   | [y0, y1, y2, y3], _ =>
     have h0 := hf 0 _ rfl
     have h1 := hf 1 _ rfl
     have h2 := hf 2 _ rfl
     have h3 := hf 3 _ rfl
     simp only [cells_int, cells_dec, cells_string, List.drop_zero, List.drop_succ_cons, List.take_succ_cons, List.take_zero, List.getElem?_cons_zero, List.getElem?_cons_succ] at h0 h1 h2 h3
     obtain ⟨k, e0, _, wk⟩ := DataW.trod_int Tryz.underlying3 h0
     obtain ⟨t, e2, _, wt⟩ := DataW.trod_string Tryz.underlying9 h2
     obtain ⟨m, e3, _, wm⟩ := DataW.trod_int Tryz.underlying3 h3
     obtain ⟨zs, n', _, _, _, hzl, hg⟩ := DataW.trod_struct Tryz.underlying23 h1
     match zs, hzl with
     | [z0, z1], _ =>
       have g0 := hg 0 _ rfl
       have g1 := hg 1 _ rfl
       simp only [cells_int, List.drop_zero, List.drop_succ_cons, List.take_succ_cons, List.take_zero, List.getElem?_cons_zero, List.getElem?_cons_succ] at g0 g1
       obtain ⟨a, e4, _, wa⟩ := DataW.trod_int Tryz.underlying3 g0
       obtain ⟨b, e5, _, wb⟩ := DataW.trod_int Tryz.underlying3 g1
       cases e0; cases e2; cases e3; cases e4; cases e5
       exact ⟨⟨k, a, b, t.data.toList, m⟩, rfl, lit_i64 wk, ⟨lit_i64 wa, lit_i64 wb, lit_i64 wm⟩, by simpa using wt⟩
end
/-- A row of structs that came in. -/
theorem open_rm {H : Type} {enc : TypeId × Value → H} {w : World} {base : Nat} {spare : Nat → Bool} {held : Bool} {P : Program} {α : Type} [Inhabited α] {cl : α → List Value} {n : Nat} (hcl : ∀ t, (cl t).length = n) (hn0 : 0 < n) {S T : TypeId} (hu : P.underlying S = some (.slice T)) (hn : P.cellsOf T = n) {Ok : α → Prop}
   (hshape : ∀ fuel cs x, DataW.trod enc P w base spare held fuel T cs = some x → ∃ v, cs = cl v ∧ Ok v) {fuel : Nat} {cs : List Value} {x : DataW H × List MemPlace} (hf : DataW.trod enc P w base spare held fuel S cs = some x) :
   ∃ (A : Option Addr) (c : Nat) (L : List α), cs = [.slice A L.length c] ∧ RM cl n w A L ∧ L.length ≤ c ∧ c ≤ maxLen ∧ ∀ t ∈ L, Ok t := by
 rcases open_slice hu hf with ⟨hcs, _⟩ | ⟨a, len, cap, m, n', D, Pl, hcs, _, hl, hm, hmm, hx, hi⟩
 · exact ⟨none, 0, [], hcs, RM.nil _ _, by simp, by simp [maxLen], fun a ha => by simp at ha⟩
 · have hlm : len ≤ m := by rw [hmm]; split <;> omega
   have hex : ∀ i, i < len → ∃ v : α, Ok v ∧ ∀ j, j < n → w.cell? ((a.add (i * n)).add j) = (cl v)[j]? := fun i hil => by
     obtain ⟨cs', hc, ht⟩ := hi i (by omega)
     rw [hn] at hc
     obtain ⟨_, _, hat⟩ := World.cells?_some hc
     obtain ⟨v, rfl, hok⟩ := hshape _ _ _ ht
     exact ⟨v, hok, hat⟩
   obtain ⟨f, hfv⟩ := choose_lt hex
   refine ⟨some a, cap, (List.range len).map f, by simpa using hcs, ?_, by simpa using hl, hm, fun x hx => ?_⟩
   · intro i v hv
     have hil : i < len := by
       have := (List.getElem?_eq_some_iff.1 hv).1
       simpa using this
     have hv' : f i = v := by simpa [hil] using hv
     subst hv'
     have hc := (hfv i hil).2
     have hs : a.spot = none := by
       rcases Option.eq_none_or_eq_some a.spot with h | ⟨y, h⟩
       · exact h
       · exfalso
         have h2 := (hfv 0 (by omega)).2 0 hn0
         have h3 : (cl (f 0))[0]? = some ((cl (f 0))[0]'(by rw [hcl]; exact hn0)) := List.getElem?_eq_getElem _
         rw [h3] at h2
         simp [Addr.add, World.cell?, h] at h2
         split at h2 <;> simp at h2
     obtain ⟨b, o, sp⟩ := a
     simp only at hs
     subst hs
     have e : ∀ j, ((⟨b, o, none⟩ : Addr).add (i * n)).add j = ⟨b, o + i * n + j, none⟩ := fun j => by
       rw [add_add]
       unfold Addr.add
       split
       · next h => simp only [Addr.mk.injEq, and_true, true_and]; omega
       · simp only [Addr.mk.injEq, and_true, true_and]; omega
     refine ⟨b, o, rfl, fun j u hj => ?_⟩
     have hjn : j < n := by rw [← hcl (f i)]; exact (List.getElem?_eq_some_iff.1 hj).1
     have := hc j hjn
     rw [e] at this
     rw [this]
     exact hj
   · obtain ⟨i, hi', rfl⟩ := List.mem_map.1 hx
     exact (hfv i (by simpa using hi')).1
end Go.Proofs.YtapilekangmcoaaGreatDoor
