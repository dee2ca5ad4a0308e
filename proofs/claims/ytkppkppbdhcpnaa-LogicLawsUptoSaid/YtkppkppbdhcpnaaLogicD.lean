/- Package logic: the simplest facts (awake), and the plain laws of three-valued logic. -/
import Derived.Test.YtkppkppbdhcpnaaLogicC
namespace Go.Proofs.Ytkppkppbdhcpnaa
open Go.RowKit
attribute [local go_sem high] run_val_eql run_val_neq

/-! ### The plain laws -/
theorem veq_iff {a b : Val} : veq a b = true ↔ a = b := by
  obtain ⟨a1, a2, a3, a4, a5⟩ := a
  obtain ⟨b1, b2, b3, b4, b5⟩ := b
  have ht : (a4.toList == b4.toList) = true ↔ a4 = b4 := by
    constructor
    · intro h
      rw [ByteArray.toList_eq, ByteArray.toList_eq] at h
      obtain ⟨⟨x⟩⟩ := a4
      obtain ⟨⟨y⟩⟩ := b4
      have := eq_of_beq h
      simp at this
      rw [this]
    · rintro rfl
      simp
  simp only [veq, Bool.and_eq_true, ht, beq_iff_eq, Val.mk.injEq]
theorem veq_self (a : Val) : veq a a = true := veq_iff.2 rfl
theorem veq_comm (a b : Val) : veq a b = veq b a := by
  rw [Bool.eq_iff_iff, veq_iff, veq_iff]
  exact eq_comm
theorem veq_tv (a b : Bool) : veq (tv a) (tv b) = (a == b) := by cases a <;> cases b <;> simp [veq, tv, bit]
theorem veq_nul (b : Bool) : veq nul (tv b) = false := by cases b <;> simp [veq, tv, nul]

/-- 'all' says: the other truth if it is met; else the truth wanted if all are that; else null. -/
theorem allS_eq (want : Bool) (vs : List Val) : ∀ out, (out = tv want ∨ out = nul) → allS want out vs = if vs.any (fun v => veq v (tv !want)) then tv !want else if vs.all (fun v => veq v (tv want)) then out else nul := by
  induction vs with
  | nil => intro out _; simp [allS]
  | cons v r ih =>
    intro out ho
    rw [allS]
    by_cases h1 : veq v (tv !want) = true
    · rw [if_pos h1]
      simp [h1, veq_iff.1 h1, veq_self]
    · rw [if_neg h1]
      by_cases h2 : veq v (tv want) = true
      · rw [if_pos h2, ih out ho]
        simp [h1, h2]
      · rw [if_neg h2, ih nul (.inr rfl)]
        simp [h1, h2]

theorem yes_all (vs : List Val) : (yesS vs = vs.length) ↔ vs.all (fun v => veq v (tv true)) = true := by
  unfold yesS
  rw [List.length_filter_eq_length_iff]
  simp
theorem no_all (vs : List Val) : (noS vs = vs.length) ↔ vs.all (fun v => veq v (tv false)) = true := by
  unfold noS
  rw [List.length_filter_eq_length_iff]
  simp
theorem yes_any (vs : List Val) : (0 < yesS vs) ↔ vs.any (fun v => veq v (tv true)) = true := by
  unfold yesS
  rw [List.length_pos_iff_exists_mem]
  simp
theorem no_any (vs : List Val) : (0 < noS vs) ↔ vs.any (fun v => veq v (tv false)) = true := by
  unfold noS
  rw [List.length_pos_iff_exists_mem]
  simp

theorem and_ref (vs : List Val) : allS true (tv true) vs = randS vs := by
  rw [allS_eq _ _ _ (.inl rfl)]
  unfold randS
  simp only [no_any, yes_all, Bool.not_true]
theorem or_ref (vs : List Val) : allS false (tv false) vs = rorS vs := by
  rw [allS_eq _ _ _ (.inl rfl)]
  unfold rorS
  simp only [yes_any, no_all, Bool.not_false]
theorem not_ref (v : Val) : notS v = rnotS v := by
  unfold notS rnotS yesS noS
  by_cases h1 : veq v (tv true) = true
  · have h2 : veq v (tv false) = false := by rw [veq_iff.1 h1, veq_tv]; rfl
    simp [h1, h2]
  · by_cases h2 : veq v (tv false) = true
    · simp [h1, h2]
    · simp [h1, h2]

attribute [go_sem] veq_self

/-! ### The walk of 'awake' -/
theorem vs_two {w : World} {g : Nat} {T : TypeId} {a b : Val} (h : Blk w g T #[.int .i64 a.k, .int .i64 a.n, .int .i64 a.s, .string a.t, .int .i64 a.m, .int .i64 b.k, .int .i64 b.n, .int .i64 b.s, .string b.t, .int .i64 b.m]) : VS w (some ⟨g, 0, none⟩) [a, b] := by
  intro i v hv
  match i, hv with
  | 0, hv => obtain rfl : a = v := by simpa using hv
             exact ⟨g, 0, rfl, h.cell 0, h.cell 1, h.cell 2, h.cell 3, h.cell 4⟩
  | 1, hv => obtain rfl : b = v := by simpa using hv
             exact ⟨g, 0, rfl, h.cell 5, h.cell 6, h.cell 7, h.cell 8, h.cell 9⟩
  | n + 2, hv => simp at hv

theorem and_lit {A : Option Addr} {n c : Nat} {vs : List Val} {w : World} (hl : vs.length = n) (hv : VS w A vs) (hn : vs.length ≤ maxLen) :
    Calls Try.prog 8 #[.slice A n c] w fun e w' => e = .returned (allS true (tv true) vs).v ∧ Below w.heap.size w w' := hl ▸ and_any A c vs w hv hn
theorem or_lit {A : Option Addr} {n c : Nat} {vs : List Val} {w : World} (hl : vs.length = n) (hv : VS w A vs) (hn : vs.length ≤ maxLen) :
    Calls Try.prog 10 #[.slice A n c] w fun e w' => e = .returned (allS false (tv false) vs).v ∧ Below w.heap.size w w' := hl ▸ or_any A c vs w hv hn

set_option maxHeartbeats 400000 in
theorem awake_any (w : World) : Calls Try.prog 7 #[] w fun e w' => e = .returned (.bool true) ∧ Below w.heap.size w w' := by
  have q1 : allS true (tv true) [tv true, nul] = nul := by simp [allS, veq_tv, veq_nul]
  have q2 : allS false (tv false) [tv true, nul] = tv true := by simp [allS, veq_tv]
  have q3 : notS (tv false) = tv true := by simp [notS, veq_tv]
  have Q1 := Lib.hid q1
  have Q2 := Lib.hid q2
  have Q3 := Lib.hid q3
  clear q1 q2 q3
  go_enter Try.func7, Try.ntmps7
  go_wp2_with (go_at_call 16; refine (truth_any _ _).mono ?_; rintro e w' ⟨rfl, c1, c2, rfl⟩)
  refine (and_lit (vs := [tv true, nul]) rfl (vs_two (a := tv true) (b := nul) (Blk.new' _ _ _ (by simp))) (by simp [maxLen])).mono ?_
  rintro e w1 ⟨he, hb1⟩
  rw [Q1.out] at he
  subst he
  unfold nul Val.v
  go_wp2_with (go_at_call 16; refine (truth_any _ _).mono ?_; rintro e w' ⟨rfl, c3, c4, rfl⟩)
  refine (or_lit (vs := [tv true, nul]) rfl (vs_two (a := tv true) (b := nul) (Blk.new' _ _ _ (by simp))) (by simp [maxLen])).mono ?_
  rintro e w2 ⟨he, hb2⟩
  rw [Q2.out] at he
  subst he
  unfold tv Val.v
  go_wp2_with (go_at_call 16; refine (truth_any _ _).mono ?_; rintro e w' ⟨rfl, c5, c6, rfl⟩)
  refine (not_any (tv false) _).mono ?_
  rintro e w3 ⟨he, hb3⟩
  rw [Q3.out] at he
  subst he
  unfold tv Val.v
  go_wp2_with fail
  refine (is_any (tv true) _).mono ?_
  rintro e w4 ⟨rfl, hb4⟩
  rw [veq_self]
  go_wp2_with fail
  go_ret
  exact ⟨rfl, by (repeat' (first | (with_reducible exact Below.refl _ _) | (with_reducible assumption) | (with_reducible refine balloc ?_ _) | (with_reducible refine Below.drew ?_) | (with_reducible refine bset ?_ ?_ _) | (with_reducible refine bstep ?_ (by with_reducible assumption)) | go_size))⟩

theorem andref_lit {A : Option Addr} {n c : Nat} {vs : List Val} {w : World} (hl : vs.length = n) (hv : VS w A vs) (hn : vs.length ≤ maxLen) :
    Calls Try.prog 9 #[.slice A n c] w fun e w' => e = .returned (allS true (tv true) vs).v ∧ Below w.heap.size w w' := and_ref vs ▸ hl ▸ rand_any A c vs w hv hn
theorem orref_lit {A : Option Addr} {n c : Nat} {vs : List Val} {w : World} (hl : vs.length = n) (hv : VS w A vs) (hn : vs.length ≤ maxLen) :
    Calls Try.prog 11 #[.slice A n c] w fun e w' => e = .returned (allS false (tv false) vs).v ∧ Below w.heap.size w w' := or_ref vs ▸ hl ▸ ror_any A c vs w hv hn
theorem notref_any (a : Val) (w : World) : Calls Try.prog 13 #[.agg #[.int .i64 a.k, .int .i64 a.n, .int .i64 a.s, .string a.t, .int .i64 a.m]] w fun e w' => e = .returned (notS a).v ∧ Below w.heap.size w w' := not_ref a ▸ rnot_any a w

set_option maxHeartbeats 400000 in
theorem lawAll_any (A : Option Addr) (c : Nat) (vs : List Val) (w : World) (hv : VS w A vs) (hn : vs.length ≤ maxLen) :
    Calls Try.prog 3 #[.slice A vs.length c] w fun e w' => e = .returned (.bool true) ∧ Below w.heap.size w w' := by
  go_enter Try.func3, Try.ntmps3
  go_wp2_with fail
  refine (awake_any _).mono ?_
  rintro e w1 ⟨rfl, hb1⟩
  go_wp2_with fail
  refine (and_lit rfl (hv.step hb1) hn).mono ?_
  rintro e w2 ⟨rfl, hb2⟩
  unfold Val.v
  go_wp2_with fail
  refine (andref_lit rfl ((hv.step hb1).step hb2) hn).mono ?_
  rintro e w3 ⟨rfl, hb3⟩
  unfold Val.v
  go_wp2_with fail
  refine (or_lit rfl (((hv.step hb1).step hb2).step hb3) hn).mono ?_
  rintro e w4 ⟨rfl, hb4⟩
  unfold Val.v
  go_wp2_with fail
  refine (orref_lit rfl ((((hv.step hb1).step hb2).step hb3).step hb4) hn).mono ?_
  rintro e w5 ⟨rfl, hb5⟩
  unfold Val.v
  go_wp2_with fail
  go_ret
  exact ⟨rfl, by (repeat' (first | (with_reducible exact Below.refl _ _) | (with_reducible assumption) | (with_reducible refine balloc ?_ _) | (with_reducible refine Below.drew ?_) | (with_reducible refine bset ?_ ?_ _) | (with_reducible refine bstep ?_ (by with_reducible assumption)) | go_size))⟩
end Go.Proofs.Ytkppkppbdhcpnaa
