/- The walks of the laws' big: whether an expression is great. Printed by genbig.py. -/
import Derived.Test.YtapilekangmcoaaGreatDoorA22
set_option linter.unusedVariables false
set_option linter.unusedSimpArgs false
set_option maxHeartbeats 8000000
set_option maxRecDepth 100000
namespace Go.Proofs.YtapilekangmcoaaGreatDoor
open Go.RowKit
theorem bigL_at {L : List Ex} {k : Nat} {x : Ex} {d : Nat} {l : Int} (hx : L[k]? = some x) : bigL (L.drop k) d l = if 0 ≤ l then bigL (L.drop (k + 1)) d (bigS x d l) else l := by
 obtain ⟨hk, rfl⟩ := List.getElem?_eq_some_iff.1 hx
 rw [List.drop_eq_getElem_cons hk, bigL]
theorem big_bd : ∀ (x : Ex) (d : Nat) (l : Int), 0 ≤ l → -1 ≤ bigS x d l ∧ bigS x d l ≤ l := by
 intro x
 induction x using ex_ind with
 | h o v s kids ih =>
   intro d l hl
   rw [bigS]
   split
   · omega
   · have : ∀ (K : List Ex), (∀ k ∈ K, k ∈ kids) → ∀ l : Int, -1 ≤ l → -1 ≤ bigL K (d + 1) l ∧ bigL K (d + 1) l ≤ l := by
       intro K
       induction K with
       | nil => intro _ l hl; rw [bigL]; omega
       | cons k K ihK =>
         intro hK l hl
         rw [bigL]
         split
         · rename_i h0
           have h1 := ih k (hK k (by simp)) (d + 1) l h0
           have h2 := ihK (fun k hk => hK k (by simp [hk])) _ h1.1
           omega
         · omega
     have := this kids (fun k h => h) (l - 1) (by omega)
     omega
def BigC11 (w0 : World) (x : Ex) : Prop := ∀ (cs : Array Value) (d : Nat) (l : Int) (w : World), XM (fun _ => True) w0 x cs → Below w0.heap.size w0 w → d ≤ 81 → 0 ≤ l → l ≤ 1000 →
 Calls Tryz.prog 23 #[.agg cs, .int .i64 (d : Int), .int .i64 l] w fun e w' => e = .returned (.int .i64 (bigS x d l)) ∧ Below w.heap.size w w'
theorem big11_node (o vk vn vs vm : Int) (q r : ByteArray) (A : Option Addr) (c : Nat) (L : List Ex) (d d1 : Nat) (l l1 : Int) (w0 w : World) (hk : KD w0 A L) (hb : Below w0.heap.size w0 w) (hd1 : d1 = d + 1) (hd : d ≤ 81) (hl1 : l1 = l - 1) (hl0 : 0 ≤ l) (hl : l ≤ 1000) (hK : ∀ k ∈ L, BigC11 w0 k) :
   Calls Tryz.prog 23 #[.agg #[.int .i64 o, .int .i64 vk, .int .i64 vn, .int .i64 vs, .string q, .int .i64 vm, .string r, .slice A L.length c], .int .i64 (d : Int), .int .i64 l] w fun e w' => e = .returned (.int .i64 (if 80 < d then -1 else bigL L d1 l1)) ∧ Below w.heap.size w w' := by
 have HK := Lib.hid hk
 have HKK := Lib.hid hK
 have HB := Lib.hid hb
 have hn := hk.n
 have hlw : IntKind.i64.wrap (l - 1) = l1 := by rw [IntWalk.i64_in _ (by omega)]; exact hl1.symm
 have hdw : IntKind.i64.wrap ((d : Int) + 1) = (d1 : Int) := by rw [IntWalk.i64_in _ (by omega)]; omega
 have k0 : Blk (w.alloc (.cells #[.int .i64 o, .int .i64 vk, .int .i64 vn, .int .i64 vs, .string q, .int .i64 vm, .string r, .slice A L.length c] 33)) w.heap.size 33 #[.int .i64 o, .int .i64 vk, .int .i64 vn, .int .i64 vs, .string q, .int .i64 vm, .string r, .slice A L.length c] := Blk.new _ _ _
 by_cases hc : 80 < d
 · rw [if_pos hc]
   have hci : (80 : Int) < (d : Int) := by omega
   clear hk hK hb k0 hc
   go_enter Tryz.func23, Tryz.ntmps23
   go_wp2_with fail
   go_returns
   exact ⟨rfl, by (repeat' first | (with_reducible first | exact .refl _ _ | assumption | apply balloc | apply Below.drew | apply bset | refine bstep ?_ ‹_› | refine bturn ?_ ‹_› ?_) | go_size)⟩
 · rw [if_neg hc]
   obtain ⟨R, hR⟩ : ∃ R, bigL L d1 l1 = R := ⟨_, rfl⟩
   have HR : Hid (bigL L d1 l1 = R ∧ -1 ≤ l1 ∧ l1 ≤ 1000 ∧ d1 ≤ 81) := Lib.hid ⟨hR, by omega, by omega, by omega⟩
   rw [hR]
   have hci : ¬ (80 : Int) < (d : Int) := by omega
   clear hk hK hb hR hc hl1 hl0 hl hd hd1
   go_enter Tryz.func23, Tryz.ntmps23
   go_wp2_with fail
   go_loopw [7, 2] (fun i lv wr => ∃ (k : Nat) (lk : Int), k ≤ L.length ∧ i = .int .i64 (k : Int) ∧ lv = .int .i64 lk ∧ Below w.heap.size w wr ∧ Blk wr w.heap.size 33 #[.int .i64 o, .int .i64 vk, .int .i64 vn, .int .i64 vs, .string q, .int .i64 vm, .string r, .slice A L.length c] ∧ Hid (bigL (L.drop k) d1 lk = R ∧ -1 ≤ lk ∧ lk ≤ 1000)) (fun i _ _ => L.length - (intOf i).toNat)
   case atStart => exact ⟨0, l1, by omega, rfl, rfl, by (repeat' first | (with_reducible first | exact .refl _ _ | assumption | apply balloc | apply Below.drew | apply bset | refine bstep ?_ ‹_› | refine bturn ?_ ‹_› ?_) | go_size), k0, Lib.hid ⟨HR.out.1, HR.out.2.1, HR.out.2.2.1⟩⟩
   case round =>
     obtain ⟨k, lk, hkk, rfl, rfl, hb, kx, HQ⟩ := hrel
     have hb0 : Below w0.heap.size w0 wr := HB.out.trans (hb.mono (by have := HB.out.size; omega))
     have KX := Lib.hid kx
     clear k0
     by_cases hlt : k < L.length
     · obtain ⟨x, hx⟩ : ∃ x, L[k]? = some x := ⟨L[k], List.getElem?_eq_getElem hlt⟩
       have hki : (k : Int) < (L.length : Int) := by omega
       by_cases h0 : 0 ≤ lk
       · have hkn : IntKind.i64.wrap ((k : Int) + 1) = ((k + 1 : Nat) : Int) := by rw [IntWalk.i64_in _ (by omega)]; omega
         obtain ⟨g, off, ko, kk', kn, ks, kq, km, kr, kB, kl, kc, rfl, hxm, q0, q1, q2, q3, q4, q5, q6, q7⟩ := HK.out.get k x hx
         replace q0 := keep1 hb0 q0
         replace q1 := keep1 hb0 q1
         replace q2 := keep1 hb0 q2
         replace q3 := keep1 hb0 q3
         replace q4 := keep1 hb0 q4
         replace q5 := keep1 hb0 q5
         replace q6 := keep1 hb0 q6
         replace q7 := keep1 hb0 q7
         have KC := Lib.hid (HKK.out x (List.mem_of_getElem? hx) _ d1 lk wr hxm hb0 HR.out.2.2.2 h0 HQ.out.2.2)
         have hq := HQ.out.1
         rw [bigL_at hx, if_pos h0] at hq
         obtain ⟨b, hbb⟩ : ∃ b, bigS x d1 lk = b := ⟨_, rfl⟩
         have hbd := big_bd x d1 lk h0
         rw [hbb] at KC hq hbd
         have HQ2 : Hid (bigL (L.drop (k + 1)) d1 b = R ∧ -1 ≤ b ∧ b ≤ 1000) := Lib.hid ⟨hq, hbd.1, by have := HQ.out.2.2; omega⟩
         clear hx hxm hq hbb HQ hbd
         obtain ⟨hlx, hllx, qx0, qx1, qx2, qx3, qx4, qx5, qx6, qx7, zx0, zx1, zx2, zx3, zx4, zx5, zx6, zx7⟩ := bf8 kx; (try simp at qx0 qx1 qx2 qx3 qx4 qx5 qx6 qx7); have Hkx := Lib.hid kx; clear kx
         go_wp2_with fail
         refine (KC.out).mono ?_
         rintro e w2 ⟨rfl, hb2⟩
         clear q0 q1 q2 q3 q4 q5 q6 q7 qx0 qx1 qx2 qx3 qx4 qx5 qx6 qx7 zx0 zx1 zx2 zx3 zx4 zx5 zx6 zx7 hlx hllx
         go_wp2_with fail
         go_roundw
         case rel => exact ⟨k + 1, b, by omega, by go_num, rfl, by (repeat' first | (with_reducible first | exact .refl _ _ | assumption | apply balloc | apply Below.drew | apply bset | refine bstep ?_ ‹_› | refine bturn ?_ ‹_› ?_) | go_size), KX.out.step hb2, HQ2⟩
         case measure => simp [intOf]; omega
       · have hq := HQ.out.1
         rw [bigL_at hx, if_neg h0] at hq
         have HQ3 := Lib.hid hq
         clear HQ hq hx
         obtain ⟨hlx, hllx, qx0, qx1, qx2, qx3, qx4, qx5, qx6, qx7, zx0, zx1, zx2, zx3, zx4, zx5, zx6, zx7⟩ := bf8 kx; (try simp at qx0 qx1 qx2 qx3 qx4 qx5 qx6 qx7); have Hkx := Lib.hid kx; clear kx
         go_wp2_with fail
         go_returns
         exact ⟨by rw [← HQ3.out]; rfl, hb⟩
     · obtain rfl : k = L.length := by omega
       have hq := HQ.out.1
       rw [List.drop_length, bigL] at hq
       have HQ3 := Lib.hid hq
       clear hlt HQ hq
       obtain ⟨hlx, hllx, qx0, qx1, qx2, qx3, qx4, qx5, qx6, qx7, zx0, zx1, zx2, zx3, zx4, zx5, zx6, zx7⟩ := bf8 kx; (try simp at qx0 qx1 qx2 qx3 qx4 qx5 qx6 qx7); have Hkx := Lib.hid kx; clear kx
       go_wp2_with fail
       go_returns
       exact ⟨by rw [← HQ3.out]; rfl, hb⟩
theorem big11_all (w0 : World) : ∀ x, BigC11 w0 x := by
 intro x
 induction x using ex_ind with
 | h o v s kids ih =>
   intro cs d l w hx hb hd hl0 hl
   obtain ⟨A, c, rfl, hk⟩ := hx.kd
   have := big11_node o v.k v.n v.s v.m (bs v.t) (bs s) A c kids d (d + 1) l (l - 1) w0 w hk hb rfl hd rfl hl0 hl fun k hkm => ih k hkm
   rw [bigS]
   exact this
end Go.Proofs.YtapilekangmcoaaGreatDoor
