/- The walk of LexBack. -/
import Derived.Test.YtambpkkllgppdaaGreatDoorTokP
import Derived.Test.YtambpkkllgppdaaGreatDoorBckP
import Derived.Test.YtambpkkllgppdaaGreatDoorLexF
namespace Go.Proofs.YtambpkkllgppdaaGreatDoor
open Go.RowKit

set_option maxHeartbeats 4000000 in
set_option maxRecDepth 100000 in
theorem back_bad (A : Option Addr) (n k c : Nat) (J : ByteArray) (je : Int) (w : World) (hc : n ≤ c) (hk : Hid (k = if 300 < n then 300 else n)) (hje : ¬ je = 0)
    (HJ : Hid (∀ cc, Calls Tryz.prog 14 #[.slice A k cc] w fun e w' => e = .returned (.tuple #[.string J, .int .i64 je]) ∧ Below w.heap.size w w'))
    (HW : Hid (∀ W, Below w.heap.size w W → Calls Tryz.prog 10 #[] W fun e w' => e = .returned (.bool true) ∧ Below W.heap.size W w')) :
    Calls Tryz.prog 5 #[.slice A n c] w fun e w' => e = .returned (.bool true) ∧ Below w.heap.size w w' := by
  have hci : (n : Int) ≤ (c : Int) := by omega
  have hjb : (je != 0) = true := by simpa using hje
  by_cases h : 300 < n
  · have hni : (300 : Int) < (n : Int) := by omega
    have h3 : (300 : Int) ≤ (c : Int) := by omega
    have hk2 : k = 300 := by rw [hk.out, if_pos h]
    subst hk2
    clear h
    go_enter Tryz.func5, Tryz.ntmps5
    go_wp2_with fail
    refine (HJ.out _).mono ?_
    rintro _ w1 ⟨rfl, hb1⟩
    go_wp2_with fail
    refine (HW.out _ (by (repeat' (first | (with_reducible exact Below.refl _ _) | (with_reducible assumption) | (with_reducible refine balloc ?_ _) | (with_reducible refine Below.drew ?_) | (with_reducible refine bset ?_ ?_ _) | (with_reducible refine bstep ?_ (by with_reducible assumption)) | (with_reducible refine bturn ?_ (by with_reducible assumption) ?_) | go_size)))).mono ?_
    rintro _ w2 ⟨rfl, hb2⟩
    go_wp2_with fail
    refine (HW.out _ (by (repeat' (first | (with_reducible exact Below.refl _ _) | (with_reducible assumption) | (with_reducible refine balloc ?_ _) | (with_reducible refine Below.drew ?_) | (with_reducible refine bset ?_ ?_ _) | (with_reducible refine bstep ?_ (by with_reducible assumption)) | (with_reducible refine bturn ?_ (by with_reducible assumption) ?_) | go_size)))).mono ?_
    rintro _ w3 ⟨rfl, hb3⟩
    go_wp2_with fail
    go_returns
    exact ⟨rfl, by (repeat' (first | (with_reducible exact Below.refl _ _) | (with_reducible assumption) | (with_reducible refine balloc ?_ _) | (with_reducible refine Below.drew ?_) | (with_reducible refine bset ?_ ?_ _) | (with_reducible refine bstep ?_ (by with_reducible assumption)) | (with_reducible refine bturn ?_ (by with_reducible assumption) ?_) | go_size))⟩
  · have hni : ¬ (300 : Int) < (n : Int) := by omega
    have hk2 : k = n := by rw [hk.out, if_neg h]
    subst hk2
    clear h
    go_enter Tryz.func5, Tryz.ntmps5
    go_wp2_with fail
    refine (HJ.out _).mono ?_
    rintro _ w1 ⟨rfl, hb1⟩
    go_wp2_with fail
    refine (HW.out _ (by (repeat' (first | (with_reducible exact Below.refl _ _) | (with_reducible assumption) | (with_reducible refine balloc ?_ _) | (with_reducible refine Below.drew ?_) | (with_reducible refine bset ?_ ?_ _) | (with_reducible refine bstep ?_ (by with_reducible assumption)) | (with_reducible refine bturn ?_ (by with_reducible assumption) ?_) | go_size)))).mono ?_
    rintro _ w2 ⟨rfl, hb2⟩
    go_wp2_with fail
    refine (HW.out _ (by (repeat' (first | (with_reducible exact Below.refl _ _) | (with_reducible assumption) | (with_reducible refine balloc ?_ _) | (with_reducible refine Below.drew ?_) | (with_reducible refine bset ?_ ?_ _) | (with_reducible refine bstep ?_ (by with_reducible assumption)) | (with_reducible refine bturn ?_ (by with_reducible assumption) ?_) | go_size)))).mono ?_
    rintro _ w3 ⟨rfl, hb3⟩
    go_wp2_with fail
    go_returns
    exact ⟨rfl, by (repeat' (first | (with_reducible exact Below.refl _ _) | (with_reducible assumption) | (with_reducible refine balloc ?_ _) | (with_reducible refine Below.drew ?_) | (with_reducible refine bset ?_ ?_ _) | (with_reducible refine bstep ?_ (by with_reducible assumption)) | (with_reducible refine bturn ?_ (by with_reducible assumption) ?_) | go_size))⟩

set_option maxHeartbeats 4000000 in
set_option maxRecDepth 100000 in
theorem back_good (A : Option Addr) (n k c : Nat) (J : ByteArray) (T : List Tk) (w : World) (hc : n ≤ c) (hk : Hid (k = if 300 < n then 300 else n))
    (HJ : Hid (∀ cc, Calls Tryz.prog 14 #[.slice A k cc] w fun e w' => e = .returned (.tuple #[.string J, .int .i64 0]) ∧ Below w.heap.size w w'))
    (HW : Hid (∀ W, Below w.heap.size w W → Calls Tryz.prog 10 #[] W fun e w' => e = .returned (.bool true) ∧ Below W.heap.size W w'))
    (HT : Hid (∀ W, Below w.heap.size w W → Calls Tryz.prog 8 #[.string J] W fun e w' => (∃ B d, e = .returned (.tuple #[.slice B k d, .int .i64 0, .int .i64 0]) ∧ TM w' B T) ∧ Below W.heap.size W w'))
    (HS : Hid (∀ B c d W, Below w.heap.size w W → TM W B T → Calls Tryz.prog 11 #[.slice B k c, .slice A k d, .bool false] W fun e w' => e = .returned (.bool true) ∧ Below W.heap.size W w')) :
    Calls Tryz.prog 5 #[.slice A n c] w fun e w' => e = .returned (.bool true) ∧ Below w.heap.size w w' := by
  have hci : (n : Int) ≤ (c : Int) := by omega
  by_cases h : 300 < n
  · have hni : (300 : Int) < (n : Int) := by omega
    have h3 : (300 : Int) ≤ (c : Int) := by omega
    have hk2 : k = 300 := by rw [hk.out, if_pos h]
    subst hk2
    clear h
    go_enter Tryz.func5, Tryz.ntmps5
    go_wp2_with fail
    refine (HJ.out _).mono ?_
    rintro _ w1 ⟨rfl, hb1⟩
    go_wp2_with fail
    refine (HW.out _ (by (repeat' (first | (with_reducible exact Below.refl _ _) | (with_reducible assumption) | (with_reducible refine balloc ?_ _) | (with_reducible refine Below.drew ?_) | (with_reducible refine bset ?_ ?_ _) | (with_reducible refine bstep ?_ (by with_reducible assumption)) | (with_reducible refine bturn ?_ (by with_reducible assumption) ?_) | go_size)))).mono ?_
    rintro _ w2 ⟨rfl, hb2⟩
    go_wp2_with fail
    refine (HT.out _ (by (repeat' (first | (with_reducible exact Below.refl _ _) | (with_reducible assumption) | (with_reducible refine balloc ?_ _) | (with_reducible refine Below.drew ?_) | (with_reducible refine bset ?_ ?_ _) | (with_reducible refine bstep ?_ (by with_reducible assumption)) | (with_reducible refine bturn ?_ (by with_reducible assumption) ?_) | go_size)))).mono ?_
    rintro _ w3 ⟨⟨B, d, rfl, hB⟩, hb3⟩
    have HB := Lib.hid hB
    clear hB
    go_wp2_with fail
    refine (HS.out B d _ _ (by (repeat' (first | (with_reducible exact Below.refl _ _) | (with_reducible assumption) | (with_reducible refine balloc ?_ _) | (with_reducible refine Below.drew ?_) | (with_reducible refine bset ?_ ?_ _) | (with_reducible refine bstep ?_ (by with_reducible assumption)) | (with_reducible refine bturn ?_ (by with_reducible assumption) ?_) | go_size))) HB.out).mono ?_
    rintro _ w4 ⟨rfl, hb4⟩
    go_wp2_with fail
    go_returns
    exact ⟨by first | rfl | simp, by (repeat' (first | (with_reducible exact Below.refl _ _) | (with_reducible assumption) | (with_reducible refine balloc ?_ _) | (with_reducible refine Below.drew ?_) | (with_reducible refine bset ?_ ?_ _) | (with_reducible refine bstep ?_ (by with_reducible assumption)) | (with_reducible refine bturn ?_ (by with_reducible assumption) ?_) | go_size))⟩
  · have hni : ¬ (300 : Int) < (n : Int) := by omega
    have hk2 : k = n := by rw [hk.out, if_neg h]
    subst hk2
    clear h
    go_enter Tryz.func5, Tryz.ntmps5
    go_wp2_with fail
    refine (HJ.out _).mono ?_
    rintro _ w1 ⟨rfl, hb1⟩
    go_wp2_with fail
    refine (HW.out _ (by (repeat' (first | (with_reducible exact Below.refl _ _) | (with_reducible assumption) | (with_reducible refine balloc ?_ _) | (with_reducible refine Below.drew ?_) | (with_reducible refine bset ?_ ?_ _) | (with_reducible refine bstep ?_ (by with_reducible assumption)) | (with_reducible refine bturn ?_ (by with_reducible assumption) ?_) | go_size)))).mono ?_
    rintro _ w2 ⟨rfl, hb2⟩
    go_wp2_with fail
    refine (HT.out _ (by (repeat' (first | (with_reducible exact Below.refl _ _) | (with_reducible assumption) | (with_reducible refine balloc ?_ _) | (with_reducible refine Below.drew ?_) | (with_reducible refine bset ?_ ?_ _) | (with_reducible refine bstep ?_ (by with_reducible assumption)) | (with_reducible refine bturn ?_ (by with_reducible assumption) ?_) | go_size)))).mono ?_
    rintro _ w3 ⟨⟨B, d, rfl, hB⟩, hb3⟩
    have HB := Lib.hid hB
    clear hB
    go_wp2_with fail
    refine (HS.out B d _ _ (by (repeat' (first | (with_reducible exact Below.refl _ _) | (with_reducible assumption) | (with_reducible refine balloc ?_ _) | (with_reducible refine Below.drew ?_) | (with_reducible refine bset ?_ ?_ _) | (with_reducible refine bstep ?_ (by with_reducible assumption)) | (with_reducible refine bturn ?_ (by with_reducible assumption) ?_) | go_size))) HB.out).mono ?_
    rintro _ w4 ⟨rfl, hb4⟩
    go_wp2_with fail
    go_returns
    exact ⟨by first | rfl | simp, by (repeat' (first | (with_reducible exact Below.refl _ _) | (with_reducible assumption) | (with_reducible refine balloc ?_ _) | (with_reducible refine Below.drew ?_) | (with_reducible refine bset ?_ ?_ _) | (with_reducible refine bstep ?_ (by with_reducible assumption)) | (with_reducible refine bturn ?_ (by with_reducible assumption) ?_) | go_size))⟩

/-- Join at the tokens of an argument. -/
theorem join_all (m : Int) (L : List Ti) (hok : ∀ t ∈ L, t.Ok ∧ t.t.length ≤ 1900000) (hL : L.length ≤ 4000000) (A : Option Addr) (c : Nat) (w : World) (hw : OKW m w) (hM : TMi w A L) :
    Calls Tryz.prog 14 #[.slice A L.length c] w fun e w' => e = .returned (.tuple #[.string (bs (joinV (L.map (wrS (lxX m)))).1), .int .i64 (joinV (L.map (wrS (lxX m)))).2]) ∧ Below w.heap.size w w' :=
  join_any (wrS (lxX m)) L hL A L.length c rfl w hM (fun t ht o ho => by
      have hl := (hok t ht).2
      unfold wrS at ho
      cases hq : outS t with
      | none => rw [hq] at ho; cases ho
      | some o' =>
        rw [hq] at ho
        simp only at ho
        split at ho
        · cases ho
          exact out_len hq hl
        · cases ho) _ _ rfl rfl
    (Lib.hid fun k t ht W hb => one_all (lxX m) m (lx_ok m) t (hok t (List.mem_of_getElem? ht)).1 (hok t (List.mem_of_getElem? ht)).2 W (hw.step hb))
where
  out_len {t : Ti} {o : Bs} (h : outS t = some o) (hl : t.t.length ≤ 1900000) : o.length ≤ 4000000 := by
    have h1 := dT_len t.n t.s
    have h2 := escB_two t.t
    have h3 := (yT_spec t.m).1
    unfold outS at h
    split at h
    · split at h
      · cases h; omega
      · cases h
    · split at h
      · split at h
        · cases h; simp; omega
        · cases h
      · split at h
        · split at h
          · cases h; simp; omega
          · cases h
        · split at h
          · split at h
            · cases h; omega
            · cases h
          · cases h

theorem toksA_zero (x : Lx) : ∀ (f a : Nat) (l : Bs) (acc : List Tk), (toksA x f a l acc).e = 0 → (toksA x f a l acc).n = 0
  | 0, a, l, acc, _ => rfl
  | f + 1, a, l, acc, h => by
    cases hd : l.drop (runS whites l) with
    | nil => rw [toksA_end hd]
    | cons c r =>
      by_cases he : (nextS x (c :: r)).e = 0
      · rw [toksA_go hd he] at h ⊢
        exact toksA_zero x f _ _ _ h
      · rw [toksA_bad hd he] at h
        exact absurd h he
theorem toksS_zero (x : Lx) (l : Bs) (h : (toksS x l).e = 0) : (toksS x l).n = 0 := by
  unfold toksS at h ⊢
  split
  · rfl
  · rename_i hl
    rw [if_neg hl] at h
    exact toksA_zero x _ _ _ _ h
theorem backlaw_any (m : Int) (A : Option Addr) (n c : Nat) (L : List Ti) (hn : L.length = n) (hc : n ≤ c) (hok : ∀ t ∈ L, t.Ok ∧ t.t.length ≤ 1900000) (w : World) (hw : OKW m w) (hM : TMi w A L) :
    Calls Tryz.prog 5 #[.slice A n c] w fun e w' => e = .returned (.bool true) ∧ Below w.heap.size w w' := by
  obtain ⟨K, hK⟩ : ∃ K, L.take 300 = K := ⟨_, rfl⟩
  have hKl : K.length = if 300 < n then 300 else n := by
    rw [← hK, List.length_take, hn]
    split <;> omega
  have hKs : K.length ≤ 300 := by rw [hKl]; split <;> omega
  have hMK : TMi w A K := by rw [← hK]; exact hM.take 300
  have hokK : ∀ t ∈ K, t.Ok ∧ t.t.length ≤ 1900000 := fun t ht => hok t (by rw [← hK] at ht; exact List.mem_of_mem_take ht)
  have HJ := fun cc => join_all m K hokK (by omega) A cc w hw hMK
  have HW := Lib.hid fun W (h : Below w.heap.size w W) => awake_lex m W (hw.step h)
  cases hP : allS (K.map (wrS (lxX m))) with
  | none =>
    have hv : joinV (K.map (wrS (lxX m))) = ([], 2) := by unfold joinV; rw [hP]
    rw [hv] at HJ
    exact back_bad A n K.length c _ 2 w hc (Lib.hid hKl) (by decide) (Lib.hid HJ) HW
  | some P =>
    by_cases hf : (joinB P).length ≤ 65536
    · have hv : joinV (K.map (wrS (lxX m))) = (joinB P, 0) := by unfold joinV; rw [hP]; exact if_pos hf
      rw [hv] at HJ
      obtain ⟨e1, e2, e3⟩ := back_all (lxX m) K P hP hf
      have hz : (toksS (lxX m) (joinB P)).n = 0 := by
        have := toksS_zero (lxX m) (joinB P) e1
        exact this
      refine back_good A n K.length c (bs (joinB P)) (toksS (lxX m) (joinB P)).l w hc (Lib.hid hKl) (Lib.hid HJ) HW (Lib.hid fun W h => ?_) (Lib.hid fun B cc d W h hB => ?_)
      · refine (tokens_all (lxX m) m (lx_ok m) (bs (joinB P)) (joinB P) rfl W (hw.step h)).mono ?_
        rintro e w' ⟨⟨B, d, rfl, hB, _⟩, hb⟩
        exact ⟨⟨B, d, by rw [e2, hz, e1]; rfl, hB⟩, hb⟩
      · exact same_ti false ((toksS (lxX m) (joinB P)).l.map Tk.i) K K.length (by rw [List.length_map]; exact e2) rfl (by omega) B A cc d W hB.i (hMK.step h) (fun i t u ht hu => by
          rw [List.getElem?_map, Option.map_eq_some_iff] at ht
          obtain ⟨t', ht', rfl⟩ := ht
          obtain ⟨g1, g2, g3, g4, g5⟩ := e3 i u t' hu ht'
          exact ⟨g1, g2, g3, g4, g5, fun h => by cases h⟩)
    · have hv : joinV (K.map (wrS (lxX m))) = ([], 10) := by unfold joinV; rw [hP]; exact if_neg hf
      rw [hv] at HJ
      exact back_bad A n K.length c _ 10 w hc (Lib.hid hKl) (by decide) (Lib.hid HJ) HW
end Go.Proofs.YtambpkkllgppdaaGreatDoor
