/- What sorting names and dropping the doubles leaves, plainly; rows of strings. The walk of expr.names. The walk of expr.names, for every expression. -/
import Derived.Lib.SlicesCompact
import Derived.Sort.EncStr
import Derived.Sort.Grow
import Derived.Test.YtapilekangmcoaaGreatDoorN22
import Derived.Test.YtapilekangmcoaaGreatDoorN6
import Derived.Test.YtapilekangmcoaaGreatDoorN28
import Derived.Test.YtapilekangmcoaaGreatDoorN23
set_option linter.unusedVariables false
set_option linter.unusedSimpArgs false
set_option maxHeartbeats 8000000
set_option maxRecDepth 100000
namespace Go.Proofs.YtapilekangmcoaaGreatDoor
open Go.RowKit Go.Sort
theorem at_list (zs : List Bs) (j : Nat) (h : j < zs.length) : zs.toArray[j]! = zs[j] := by
 rw [getElem!_pos zs.toArray j (by simpa using h)]
 simp
theorem mem_compact (zs : List Bs) (x : Bs) : x ∈ Lib.compact zs ↔ x ∈ zs := by
 unfold Lib.compact Lib.compactUpTo
 rw [List.mem_map]
 constructor
 · rintro ⟨j, hj, rfl⟩
   have hlt : j < zs.length := by simpa using (List.mem_filter.1 hj).1
   rw [at_list zs j hlt]
   exact List.getElem_mem hlt
 · intro hx
   obtain ⟨j, hj, rfl⟩ := List.mem_iff_getElem.1 hx
   clear hx
   induction j with
   | zero => exact ⟨0, List.mem_filter.2 ⟨by simpa using hj, by simp [Lib.keeps]⟩, at_list zs 0 hj⟩
   | succ j ih =>
     by_cases hk : Lib.keeps zs.toArray (j + 1) = true
     · exact ⟨j + 1, List.mem_filter.2 ⟨by simpa using hj, hk⟩, at_list zs (j + 1) hj⟩
     · have he : zs[j + 1] = zs[j] := by
         unfold Lib.keeps at hk
         rw [decide_eq_true_iff, at_list zs (j + 1) hj, Nat.add_sub_cancel, at_list zs j (by omega)] at hk
         exact Classical.byContradiction fun h => hk (.inr h)
       rw [he]
       exact ih (by omega)
theorem sorted_compact (zs : List Bs) (h : zs.Pairwise (· ≤ ·)) : (Lib.compact zs).Pairwise (· < ·) := by
 unfold Lib.compact Lib.compactUpTo
 rw [List.pairwise_map]
 have h1 : ((List.range zs.length).filter (Lib.keeps zs.toArray)).Pairwise (· < ·) := List.pairwise_lt_range.filter _
 refine h1.imp_of_mem fun {a b} ha hb hab => ?_
 have hb1 := List.mem_filter.1 hb
 have hbl : b < zs.length := by simpa using hb1.1
 have hk := hb1.2
 unfold Lib.keeps at hk
 rw [decide_eq_true_iff] at hk
 rw [at_list zs b hbl, at_list zs (b - 1) (by omega)] at hk
 rw [at_list zs a (by omega), at_list zs b hbl]
 have hle : ∀ i j (hi : i < zs.length) (hj : j < zs.length), i ≤ j → zs[i] ≤ zs[j] := fun i j hi hj hij => by
   rcases Nat.lt_or_eq_of_le hij with h2 | h2
   · exact List.pairwise_iff_getElem.1 h i j hi hj h2
   · subst h2
     exact List.le_refl _
 have e1 := hle a (b - 1) (by omega) (by omega) (by omega)
 have e2 := hle (b - 1) b (by omega) hbl (by omega)
 rcases hk with hk | hk
 · omega
 · refine List.not_le.1 fun hle2 => hk (List.le_antisymm (List.le_trans hle2 e1) e2)
/-- The names in an expression, rising, each once. -/
def nmL (x : Ex) : List Bs := Lib.compact ((nmsE x).mergeSort fun a b => decide (a ≤ b))
theorem nmL_mem (x : Ex) (n : Bs) : n ∈ nmL x ↔ n ∈ nmsE x := by unfold nmL; rw [mem_compact, List.mem_mergeSort]
theorem nmL_up (x : Ex) : (nmL x).Pairwise (· < ·) := by
 refine sorted_compact _ ?_
 have := List.pairwise_mergeSort (le := fun a b : Bs => decide (a ≤ b)) (fun a b c h1 h2 => by
   rw [decide_eq_true_iff] at *
   exact List.le_trans h1 h2) (fun a b => by
   rw [Bool.or_eq_true, decide_eq_true_iff, decide_eq_true_iff]
   exact List.le_total a b) (nmsE x)
 exact this.imp fun h => of_decide_eq_true h
theorem nmL_len (x : Ex) : (nmL x).length ≤ (nmsE x).length := by
 unfold nmL Lib.compact Lib.compactUpTo
 rw [List.length_map]
 refine Nat.le_trans (List.length_filter_le _ _) ?_
 simp
/-! Rows of strings. -/
def clN (s : Bs) : List Value := [.string (bs s)]
theorem clN_len (s : Bs) : (clN s).length = 1 := rfl
theorem holds_own {w : World} {base n c g : Nat} {l : List Bs} (h : w.ownsRow base 9 1 (.slice (some ⟨g, 0, none⟩) n c) n (rowL clN l)) (hn : n = l.length) : Holds encStr w g 0 l.toArray ∧ base ≤ g ∧ g < w.heap.size ∧ n ≤ c := by
 rcases h.2 with ⟨hv, _⟩ | ⟨g', cap, cur, hv, hb, hg, hnc, hcm, hcs, ht⟩
 · cases hv
 · injection hv with e1 _ e3
   injection e1 with e1
   injection e1 with e1 _
   subst e1 e3
   have hB : Blk w g 9 cur := hg
   refine ⟨fun j hj => ?_, hb, hB.lt, hnc⟩
   have hj' : j < l.length := by simpa using hj
   rw [Nat.zero_add, hB.frozen j, hB.cell j]
   refine ⟨?_, rfl⟩
   have h1 := rowL_get (n := 1) clN_len l j l[j] 0 (.string (bs l[j])) (List.getElem?_eq_getElem hj') rfl
   rw [← ht] at h1
   simp only [Nat.mul_one, Nat.add_zero] at h1
   have h2 : cur.toList[j]? = some (.string (bs l[j])) := by
     rw [List.getElem?_take] at h1
     split at h1
     · exact h1
     · cases h1
   rw [at_list l j hj', ← Array.getElem?_toList, h2]
   rfl
theorem rm_holds {w : World} {g : Nat} {l : List Bs} {d : List Bs} (h : Holds encStr w g 0 (l ++ d).toArray) : RM clN 1 w (some ⟨g, 0, none⟩) l := fun i t ht => by
 obtain ⟨hi, rfl⟩ := List.getElem?_eq_some_iff.1 ht
 refine ⟨g, 0, rfl, fun j v hj => ?_⟩
 have hj0 : j = 0 := by
   have := (List.getElem?_eq_some_iff.1 hj).1
   rw [clN_len] at this
   omega
 subst hj0
 have h1 := (h i (by simp; omega)).1
 rw [at_list (l ++ d) i (by simp; omega), List.getElem_append_left hi, Nat.zero_add] at h1
 obtain rfl : Value.string (bs l[i]) = v := by simpa [clN] using hj
 rw [Nat.mul_one, Nat.add_zero, Nat.zero_add]
 exact h1
theorem below_put {a w : World} {g off n : Nat} {d : Array Bs} {os : Array Obj} (h : Below a.heap.size a w) (hg : a.heap.size ≤ g) : Below a.heap.size a (grow (putRow encStr (Sort.ahead w n) g off d) os) := by
 refine h.trans ⟨rfl, rfl, rfl, ?_, fun k hk => ?_⟩
 · rw [size_grow, size_putRow]
   exact Nat.le_add_right _ _
 · have hks : k < (putRow encStr (Sort.ahead w n) g off d).heap.size := by
     rw [size_putRow]
     exact Nat.lt_of_lt_of_le hk h.size
   rw [heap_grow_old _ _ hks]
   unfold putRow mapBlock
   rw [Array.getElem?_modify, if_neg (by omega)]
   rfl
theorem below_put0 {a w : World} {g off n : Nat} {d : Array Bs} (h : Below a.heap.size a w) (hg : a.heap.size ≤ g) : Below a.heap.size a (putRow encStr (Sort.ahead w n) g off d) := by
 have := below_put (os := #[]) (n := n) (off := off) (d := d) h hg
 rwa [grow_empty] at this
end Go.Proofs.YtapilekangmcoaaGreatDoor
namespace Go.Proofs.YtapilekangmcoaaGreatDoor
open Go.RowKit
theorem info_str : (Tryz.prog.info? 9).map (fun i => (i.zero, i.size, i.bytes)) = some (some (.string ⟨#[]⟩), 1, 16) := by kernel_rfl
theorem info_parts {t : TypeId} {z : Value} {s b : Nat} (h : (Tryz.prog.info? t).map (fun i => (i.zero, i.size, i.bytes)) = some (some z, s, b)) : ∃ i, Tryz.prog.info? t = some i ∧ i.zero = some z ∧ i.size = s ∧ i.bytes = b := by
 cases hi : Tryz.prog.info? t with
 | none => rw [hi] at h; cases h
 | some i =>
   rw [hi] at h
   simp only [Option.map_some, Option.some.injEq, Prod.mk.injEq] at h
   exact ⟨i, rfl, h.1, h.2.1, h.2.2⟩
def nmsK (L : List Ex) (k : Nat) : List Bs := nmsL (L.take k)
theorem nmsL_app (L M : List Ex) : nmsL (L ++ M) = nmsL L ++ nmsL M := by
 induction L with
 | nil => rfl
 | cons x r ih => rw [List.cons_append, nmsL, nmsL, ih, List.append_assoc]
theorem nmsK_at {L : List Ex} {k : Nat} {x : Ex} (hx : L[k]? = some x) : nmsK L (k + 1) = nmsK L k ++ nmsE x := by
 obtain ⟨hk, rfl⟩ := List.getElem?_eq_some_iff.1 hx
 unfold nmsK
 rw [List.take_succ_eq_append_getElem hk, nmsL_app, nmsL, nmsL, List.append_nil]
theorem nmsK_le (L : List Ex) (k : Nat) : (nmsK L k).length ≤ (nmsL L).length := by
 have h := nmsL_app (L.take k) (L.drop k)
 rw [List.take_append_drop] at h
 rw [h]
 unfold nmsK
 rw [List.length_append]
 exact Nat.le_add_right _ _
theorem rowN_one (l : List Bs) : ∀ u ∈ rowL clN l, u.oneCell' = true := by
 intro u hu
 obtain ⟨v, _, hv⟩ := List.mem_flatMap.1 hu
 simp [clN] at hv
 rw [hv]
 rfl
/-- What names answers: a row of its own. -/
def NmsC (w0 : World) (x : Ex) : Prop := ∀ (cs : Array Value) (w : World), XM (fun _ => True) w0 x cs → Below w0.heap.size w0 w → (nmsE x).length ≤ 1000000 →
 Calls Tryz.prog 36 #[.agg cs] w fun e w' => (∃ v, e = .returned v ∧ w'.ownsRow w.heap.size 9 1 v (nmsE x).length (rowL clN (nmsE x))) ∧ Below w.heap.size w w'
end Go.Proofs.YtapilekangmcoaaGreatDoor
namespace Go.Proofs.YtapilekangmcoaaGreatDoor
open Go.RowKit
section
variable {w w' a : World} {base n : Nat} {e : TypeId} {size : Nat} {v : Value} {xs : List Value}
theorem own_step (h : w.ownsRow base e size v n xs) (hb : Below w.heap.size w w') : w'.ownsRow base e size v n xs := by
 obtain ⟨h1, h2⟩ := h
 refine ⟨h1, ?_⟩
 rcases h2 with h2 | ⟨g, cap, cur, hv, hg, hh, r⟩
 · exact Or.inl h2
 · have hlt : g < w.heap.size := Blk.lt (t := e) (cs := cur) hh
   exact Or.inr ⟨g, cap, cur, hv, hg, (hb.block g hlt).trans hh, r⟩
theorem own_base (h : w.ownsRow base e size v n xs) {b : Nat} (hb : b ≤ base) : w.ownsRow b e size v n xs := by
 refine ⟨h.1, ?_⟩
 rcases h.2 with h2 | ⟨g, cap, cur, hv, hg, hh, r⟩
 · exact Or.inl h2
 · exact Or.inr ⟨g, cap, cur, hv, Nat.le_trans hb hg, hh, r⟩
theorem below_own {c : World} (h : Below w.heap.size w a) (hbase : w.heap.size ≤ base) (hown : a.ownsRow base e size v n xs) (hg : a.grownBy c v.ownBlock) : Below w.heap.size w c :=
 h.grown hg h.size (fun k hk => Nat.le_trans hbase (hown.lt k hk).1)
theorem blk_own {c : World} {g : Nat} {t : TypeId} {cs : Array Value} (h : Blk a g t cs) (hown : a.ownsRow base e size v n xs) (hg : a.grownBy c v.ownBlock) (hlt : g < base) : Blk c g t cs :=
 (hg.block g h.lt (fun hc => by have := (hown.lt g hc.symm).1; omega)).trans h
end
theorem reads_rm {α : Type} {cl : α → List Value} {n : Nat} (hcl : ∀ t, (cl t).length = n) (hn : 0 < n) {w : World} {A : Option Addr} {L : List α} (h : RM cl n w A L) : App.Reads w w.heap.size n A L.length (rowL cl L) := by
 refine ⟨rowL_len hcl L, fun h0 => ?_⟩
 obtain ⟨b, o, hA, h1⟩ := h 0 L[0] (List.getElem?_eq_getElem h0)
 have hc0 := h1 0 _ (List.getElem?_eq_getElem (by rw [hcl]; exact hn))
 have hlt0 := block_lt_of_cell hc0
 refine ⟨⟨b, o, none⟩, hA, hlt0, fun j u hu => ?_⟩
 have hj : j < L.length * n := by
   have := (List.getElem?_eq_some_iff.1 hu).1
   rwa [rowL_len hcl] at this
 have hi : j / n < L.length := Nat.div_lt_of_lt_mul (by rw [Nat.mul_comm]; exact hj)
 have hr : j % n < n := Nat.mod_lt _ hn
 have hjj : j / n * n + j % n = j := by rw [Nat.mul_comm]; exact Nat.div_add_mod j n
 obtain ⟨b', o', hA', hc⟩ := h (j / n) L[j / n] (List.getElem?_eq_getElem hi)
 rw [hA] at hA'
 cases hA'
 have hlt : j % n < (cl L[j / n]).length := by rw [hcl]; exact hr
 have hg := rowL_get hcl L (j / n) L[j / n] (j % n) _ (List.getElem?_eq_getElem hi) (List.getElem?_eq_getElem hlt)
 rw [hjj, hu] at hg
 have e : (⟨b, o, none⟩ : Addr).add j = ⟨b, o + j / n * n + j % n, none⟩ := by
   unfold Addr.add
   split
   · simp only [Addr.mk.injEq, and_true, true_and]; omega
   · simp only [Addr.mk.injEq, and_true, true_and]; omega
 rw [e]
 injection hg with hg
 rw [hg]
 exact hc (j % n) _ (List.getElem?_eq_getElem hlt)
theorem own_nil (w : World) (base : Nat) (e : TypeId) (size : Nat) : w.ownsRow base e size (.slice none 0 0) 0 [] := ⟨by simp, .inl ⟨rfl, rfl⟩⟩
theorem rm_one {w : World} {g : Nat} {T : TypeId} {s : Bs} (h : Blk w g T #[.string (bs s)]) : RM clN 1 w (some ⟨g, 0, none⟩) [s] := fun i t ht => by
 match i, ht with
 | 0, ht =>
   obtain rfl : s = t := by simpa using ht
   refine ⟨g, 0, rfl, fun j v hj => ?_⟩
   match j, hj with
   | 0, hj => exact (h.cell 0).trans hj
   | j + 1, hj => simp [clN] at hj
 | i + 1, ht => simp at ht
theorem nms_loop (o vk vn vs vm : Int) (q r : ByteArray) (A : Option Addr) (c : Nat) (L : List Ex) (s : Bs) (hs : bs s = r) (ho : ¬ o = 2) (w0 w : World) (hk : KD w0 A L) (hb : Below w0.heap.size w0 w) (hn : (nmsL L).length ≤ 1000000) (hK : ∀ k ∈ L, NmsC w0 k) :
   Calls Tryz.prog 36 #[.agg #[.int .i64 o, .int .i64 vk, .int .i64 vn, .int .i64 vs, .string q, .int .i64 vm, .string r, .slice A L.length c]] w fun e w' => (∃ v, e = .returned v ∧ w'.ownsRow w.heap.size 9 1 v (nmsL L).length (rowL clN (nmsL L))) ∧ Below w.heap.size w w' := by
 have HK := Lib.hid hk
 have HKK := Lib.hid hK
 have HB := Lib.hid hb
 have hn2 := hk.n
 have k0 : Blk (w.alloc (.cells #[.int .i64 o, .int .i64 vk, .int .i64 vn, .int .i64 vs, .string q, .int .i64 vm, .string r, .slice A L.length c] 33)) w.heap.size 33 #[.int .i64 o, .int .i64 vk, .int .i64 vn, .int .i64 vs, .string q, .int .i64 vm, .string r, .slice A L.length c] := Blk.new _ _ _
 have h2b : (o == 2) = false := by simpa using ho
 obtain ⟨i0, hi, hz0, hz1, hz2⟩ := info_parts info_str
 have HI := Lib.hid hi
 have HZ0 := Lib.hid hz0
 have HZ1 := Lib.hid hz1
 have HZ2 := Lib.hid hz2
 clear hi hz0 hz1 hz2 hk hK hb ho
 go_enter Tryz.func36, Tryz.ntmps36
 go_wp2_with fail
 go_loopw [3, 17] (fun x i wr => ∃ k : Nat, k ≤ L.length ∧ i = .int .i64 (k : Int) ∧ Below w.heap.size w wr ∧ Blk wr w.heap.size 33 #[.int .i64 o, .int .i64 vk, .int .i64 vn, .int .i64 vs, .string q, .int .i64 vm, .string r, .slice A L.length c] ∧ Hid (wr.ownsRow (w.heap.size + 1) 9 1 x (nmsK L k).length (rowL clN (nmsK L k)))) (fun _ i _ => L.length - (intOf i).toNat)
 case atStart => exact ⟨0, by omega, rfl, by (repeat' first | (with_reducible first | exact .refl _ _ | assumption | apply balloc | apply Below.drew | apply bset | refine bstep ?_ ‹_› | refine bturn ?_ ‹_› ?_) | go_size), k0, Lib.hid (own_nil _ _ _ _)⟩
 case round =>
   obtain ⟨k, hkk, rfl, hbl, kx, HO⟩ := hrel
   have hb0 : Below w0.heap.size w0 wr := HB.out.trans (hbl.mono (by have := HB.out.size; omega))
   have KX := Lib.hid kx
   clear k0
   by_cases hlt : k < L.length
   · obtain ⟨x, hx⟩ : ∃ x, L[k]? = some x := ⟨L[k], List.getElem?_eq_getElem hlt⟩
     have hki : (k : Int) < (L.length : Int) := by omega
     have hkn : IntKind.i64.wrap ((k : Int) + 1) = ((k + 1 : Nat) : Int) := by rw [IntWalk.i64_in _ (by omega)]; omega
     obtain ⟨g, off, ko, kk', kn, ks, kq, km, kr, kB, kl, kc, rfl, hxm, q0, q1, q2, q3, q4, q5, q6, q7⟩ := HK.out.get k x hx
     replace q0 := keep1 hb0 q0
     replace q1 := keep1 hb0 q1
     replace q2 := keep1 hb0 q2
     replace q3 := keep1 hb0 q3
     replace q4 := keep1 hb0 q4
     replace q5 := keep1 hb0 q5
     replace q6 := keep1 hb0 q6
     replace q7 := keep1 hb0 q7
     have hat := nmsK_at hx
     have hle := nmsK_le L (k + 1)
     have hlen : (nmsK L k).length + (nmsE x).length ≤ 1000000 := by
       have : (nmsK L (k + 1)).length = (nmsK L k).length + (nmsE x).length := by rw [hat, List.length_append]
       omega
     have KC : Hid (∀ W, Below wr.heap.size wr W → Calls Tryz.prog 36 #[.agg #[.int .i64 ko, .int .i64 kk', .int .i64 kn, .int .i64 ks, .string kq, .int .i64 km, .string kr, .slice kB kl kc]] W fun e w' => (∃ v, e = .returned v ∧ w'.ownsRow W.heap.size 9 1 v (nmsE x).length (rowL clN (nmsE x))) ∧ Below W.heap.size W w') :=
       Lib.hid fun W hW => HKK.out x (List.mem_of_getElem? hx) _ W hxm (bstep hb0 hW) (by omega)
     have HAT : Hid (nmsK L (k + 1) = nmsK L k ++ nmsE x) := Lib.hid hat
     have HLN := Lib.hid hlen
     generalize nmsE x = E at KC HAT HLN
     generalize nmsK L k = N0 at HO HAT HLN
     clear hx hxm hat hle hlen
     obtain ⟨hlx, hllx, qx0, qx1, qx2, qx3, qx4, qx5, qx6, qx7, zx0, zx1, zx2, zx3, zx4, zx5, zx6, zx7⟩ := bf8 kx; (try simp at qx0 qx1 qx2 qx3 qx4 qx5 qx6 qx7); have Hkx := Lib.hid kx; clear kx
     go_wp2_with fail
     refine (KC.out _ (balloc (Below.refl _ _) _)).mono ?_
     rintro e w2 ⟨⟨v, rfl, hv⟩, hb2⟩
     have hb12 : Below wr.heap.size wr w2 := by (repeat' first | (with_reducible first | exact .refl _ _ | assumption | apply balloc | apply Below.drew | apply bset | refine bstep ?_ ‹_› | refine bturn ?_ ‹_› ?_) | go_size)
     have hbl2 : Below w.heap.size w w2 := bstep hbl hb12
     have ho2 := own_step HO.out hb12
     obtain ⟨A2, c2, rfl, hrm2, _, _, _⟩ := own_rm clN_len hv rfl
     have hr2 := reads_rm clN_len (by decide) hrm2
     have hz2 := hbl2.size
     have hzr := hbl.size
     have hsz2 : w.heap.size + 1 ≤ w2.heap.size := by have := (KX.out.step hb12).lt; omega
     have HLN2 := HLN.out
     have KX2 := Lib.hid (KX.out.step hb12)
     clear q0 q1 q2 q3 q4 q5 q6 q7 qx0 qx1 qx2 qx3 qx4 qx5 qx6 qx7 zx0 zx1 zx2 zx3 zx4 zx5 zx6 zx7 hlx hllx hv hrm2 hb2 KX
     go_wp2_with (at_builtin; refine App.wpList_append_any _ rfl (.tmp 21) (.tmp 23) _ (by rfl) (w.heap.size + 1) 9 i0 _ 1 16 Tryz.underlying29 HI.out HZ0.out HZ1.out HZ2.out rfl (by omega) _ N0.length _ (by rfl) ho2 _ A2 E.length c2 _ (by rfl) hr2 (rowN_one _) (by simp only [maxLen]; omega) (by omega) hsz2 ?_; intro x1 w3 hown1 hg1 hat1)
     go_roundw
     case rel =>
       refine ⟨k + 1, by omega, by go_num, below_own hbl2 (Nat.le_succ _) ho2 hg1, blk_own KX2.out ho2 hg1 (Nat.lt_succ_self _), Lib.hid ?_⟩
       rw [HAT.out, List.length_append, rowL_app]
       exact hown1
     case measure => simp [intOf]; omega
   · obtain rfl : k = L.length := by omega
     have hnk : nmsK L L.length = nmsL L := by unfold nmsK; rw [List.take_length]
     rw [hnk] at HO
     clear hlt hnk
     go_wp2_with fail
     go_returns
     exact ⟨⟨_, rfl, own_base HO.out (Nat.le_succ _)⟩, hbl⟩
theorem nms_name (vk vn vs vm : Int) (q : ByteArray) (A : Option Addr) (c : Nat) (s : Bs) (w : World) :
   Calls Tryz.prog 36 #[.agg #[.int .i64 2, .int .i64 vk, .int .i64 vn, .int .i64 vs, .string q, .int .i64 vm, .string (bs s), .slice A 0 c]] w fun e w' => (∃ v, e = .returned v ∧ w'.ownsRow w.heap.size 9 1 v [s].length (rowL clN [s])) ∧ Below w.heap.size w w' := by
 have k0 : Blk (w.alloc (.cells #[.int .i64 2, .int .i64 vk, .int .i64 vn, .int .i64 vs, .string q, .int .i64 vm, .string (bs s), .slice A 0 c] 33)) w.heap.size 33 #[.int .i64 2, .int .i64 vk, .int .i64 vn, .int .i64 vs, .string q, .int .i64 vm, .string (bs s), .slice A 0 c] := Blk.new _ _ _
 have K0 := Lib.hid k0
 obtain ⟨i0, hi, hz0, hz1, hz2⟩ := info_parts info_str
 have HI := Lib.hid hi
 have HZ0 := Lib.hid hz0
 have HZ1 := Lib.hid hz1
 have HZ2 := Lib.hid hz2
 clear hi hz0 hz1 hz2
 obtain ⟨W2, hW2⟩ : ∃ W2, (w.alloc (.cells #[.int .i64 2, .int .i64 vk, .int .i64 vn, .int .i64 vs, .string q, .int .i64 vm, .string (bs s), .slice A 0 c] 33)).alloc (.cells #[.string (bs s)] 9) = W2 := ⟨_, rfl⟩
 have hs2 : w.heap.size + 1 ≤ W2.heap.size := by rw [← hW2]; simp
 have hr2 : App.Reads W2 W2.heap.size 1 (some ⟨w.heap.size + 1, 0, none⟩) 1 (rowL clN [s]) := by
   have hB : Blk W2 (w.heap.size + 1) 9 #[.string (bs s)] := by rw [← hW2]; exact Blk.new' _ _ _ (by simp)
   exact reads_rm clN_len (by decide) (rm_one hB)
 have K2 : Hid (Blk W2 w.heap.size 33 #[.int .i64 2, .int .i64 vk, .int .i64 vn, .int .i64 vs, .string q, .int .i64 vm, .string (bs s), .slice A 0 c]) := Lib.hid (by rw [← hW2]; exact k0.alloc _)
 have hb2 : Below w.heap.size w W2 := by rw [← hW2]; (repeat' first | (with_reducible first | exact .refl _ _ | assumption | apply balloc | apply Below.drew | apply bset | refine bstep ?_ ‹_› | refine bturn ?_ ‹_› ?_) | go_size)
 have hown0 := own_nil W2 (w.heap.size + 1) 9 1
 obtain ⟨S, hS⟩ : ∃ S, bs s = S := ⟨_, rfl⟩
 rw [hS] at k0 hW2 K0
 have HS := Lib.hid hS
 rw [hS] at K2 ⊢
 clear hS
 go_enter Tryz.func36, Tryz.ntmps36
 obtain ⟨hlu, hllu, qu0, qu1, qu2, qu3, qu4, qu5, qu6, qu7, zu0, zu1, zu2, zu3, zu4, zu5, zu6, zu7⟩ := bf8 k0; (try simp at qu0 qu1 qu2 qu3 qu4 qu5 qu6 qu7); have Hk0 := Lib.hid k0; clear k0
 go_wp2_with (at_builtin; (refine App.wpList_append_any _ rfl (.tmp 9) (.tmp 12) _ (by rfl) (w.heap.size + 1) 9 i0 _ 1 16 Tryz.underlying29 HI.out HZ0.out HZ1.out HZ2.out rfl (by omega) _ 0 _ (by rfl) hown0 _ _ 1 1 _ (by rfl) hr2 (rowN_one _) (by simp only [maxLen]; omega) (by omega) hs2 ?_; intro x1 w3 hown1 hg1 hat1; have kx3 := blk_own K2.out hown0 hg1 (Nat.lt_succ_self _); have hb3 := below_own hb2 (Nat.le_succ _) hown0 hg1; have q37 := kx3.cell 7; simp at q37))
 have HO := Lib.hid hown1
 go_loopw [3, 17] (fun x i wr => x = x1 ∧ i = .int .i64 0 ∧ wr = w3) (fun _ _ _ => 0)
 case atStart => exact ⟨rfl, rfl, rfl⟩
 case round =>
   obtain ⟨rfl, rfl, rfl⟩ := hrel
   go_wp2_with fail
   go_returns
   exact ⟨⟨_, rfl, own_base HO.out (Nat.le_succ _)⟩, hb3⟩
theorem names_all (w0 : World) : ∀ {x : Ex}, ES wordB x → NmsC w0 x := by
 intro x hx
 have noname : ∀ (o : Int) (v : Vl) (K : List Ex), ¬ o = 2 → (∀ k ∈ K, NmsC w0 k) → NmsC w0 (.mk o v [] K) := fun o v K ho hK cs w hx hb hn => by
   have e : nmsE (.mk o v [] K) = nmsL K := by rw [nmsE, if_neg ho]; rfl
   rw [e] at hn ⊢
   obtain ⟨B, c', rfl, hk⟩ := hx.kd
   exact nms_loop o v.k v.n v.s v.m (bs v.t) (bs []) B c' K [] rfl ho w0 w hk hb hn hK
 induction hx with
 | val v hv h0 => exact noname 1 v [] (by decide) (by simp)
 | name s hs =>
   intro cs w hx hb hn
   have e : nmsE (.mk 2 zeroV s []) = [s] := by simp [nmsE, nmsL]
   rw [e]
   obtain ⟨B, c', rfl, hk⟩ := hx.kd
   exact nms_name 0 0 0 0 (bs []) B c' s w
 | neg a ha ih => exact noname 3 zeroV [a] (by decide) (by simpa using ih)
 | not a ha ih => exact noname 16 zeroV [a] (by decide) (by simpa using ih)
 | bin o a b h4 h15 ha hb iha ihb => exact noname o zeroV [a, b] (by omega) (by simpa using ⟨iha, ihb⟩)
 | ife a b c ha hb hc iha ihb ihc => exact noname 17 zeroV [a, b, c] (by decide) (by simpa using ⟨iha, ihb, ihc⟩)
end Go.Proofs.YtapilekangmcoaaGreatDoor
