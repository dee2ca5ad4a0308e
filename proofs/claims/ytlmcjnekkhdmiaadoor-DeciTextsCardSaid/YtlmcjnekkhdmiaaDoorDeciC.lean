/- The walks of package deci: all, Neg, size, Compare, Add. -/
import Derived.Test.YtlmcjnekkhdmiaaDoorDeciB
set_option linter.unusedVariables false
set_option linter.unusedSimpArgs false
namespace Go.Proofs.YtlmcjnekkhdmiaaDoor
open Go.RowKit
attribute [local go_sem high] run_dec_eql run_dec_neq

/-- A slice of numbers in memory. -/
def DS (w : World) (A : Option Addr) (ds : List (Int × Int)) : Prop := ∀ i d, ds[i]? = some d → ∃ b o, A = some ⟨b, o, none⟩ ∧ w.cell? ⟨b, o + i * 2, none⟩ = some (.int .i64 d.1) ∧ w.cell? ⟨b, o + i * 2 + 1, none⟩ = some (.int .i64 d.2)
theorem DS.step {w w' : World} {A : Option Addr} {ds : List (Int × Int)} (h : DS w A ds) (hb : Below w.heap.size w w') : DS w' A ds := fun i v hv => by
  obtain ⟨b, o, h0, h1, h2⟩ := h i v hv
  exact ⟨b, o, h0, keep1 hb h1, keep1 hb h2⟩
theorem ds_one {w : World} {g : Nat} {T : TypeId} {a b : Int} (h : Blk w g T #[.int .i64 a, .int .i64 b]) : DS w (some ⟨g, 0, none⟩) [(a, b)] := by
  intro i v hv
  match i, hv with
  | 0, hv => obtain rfl : (a, b) = v := by simpa using hv
             exact ⟨g, 0, rfl, h.cell 0, h.cell 1⟩
  | n + 1, hv => simp at hv
theorem ds_two {w : World} {g : Nat} {T : TypeId} {a b c d : Int} (h : Blk w g T #[.int .i64 a, .int .i64 b, .int .i64 c, .int .i64 d]) : DS w (some ⟨g, 0, none⟩) [(a, b), (c, d)] := by
  intro i v hv
  match i, hv with
  | 0, hv => obtain rfl : (a, b) = v := by simpa using hv
             exact ⟨g, 0, rfl, h.cell 0, h.cell 1⟩
  | 1, hv => obtain rfl : (c, d) = v := by simpa using hv
             exact ⟨g, 0, rfl, h.cell 2, h.cell 3⟩
  | n + 2, hv => simp at hv

def I64 (n : Int) : Prop := -9223372036854775808 ≤ n ∧ n ≤ 9223372036854775807
def allD (ds : List (Int × Int)) : Int := if ds.all (fun d => soundS d.1 d.2) then 0 else 2
theorem allD_stop {ds : List (Int × Int)} {k : Nat} {a b : Int} (hlt : k < ds.length) (hv : ds[k] = (a, b)) (h : soundS a b = false) : allD (ds.drop k) = 2 := by
  unfold allD
  rw [List.drop_eq_getElem_cons hlt, hv]
  simp [h]
theorem allD_go {ds : List (Int × Int)} {k : Nat} {a b : Int} (hlt : k < ds.length) (hv : ds[k] = (a, b)) (h : soundS a b = true) : allD (ds.drop k) = allD (ds.drop (k + 1)) := by
  unfold allD
  rw [List.drop_eq_getElem_cons hlt, hv]
  simp only [List.all_cons, h, Bool.true_and]

set_option maxHeartbeats 1000000 in
theorem all_any (A : Option Addr) (c : Nat) (ds : List (Int × Int)) (w : World) (hv : DS w A ds) (hn : ds.length ≤ maxLen) (hr : ∀ d ∈ ds, I64 d.1 ∧ I64 d.2) :
    Calls Tryd.prog 9 #[.slice A ds.length c] w fun e w' => e = .returned (.int .i64 (allD ds)) ∧ Below w.heap.size w w' := by
  unfold maxLen at hn
  go_enter Tryd.func9, Tryd.ntmps9
  go_wp2
  go_loopw [7] (fun i wr => ∃ k : Nat, k ≤ ds.length ∧ i = .int .i64 k ∧ Below w.heap.size w wr ∧ allD ds = allD (ds.drop k)) (fun i _ => ds.length - (intOf i).toNat)
  case atStart => exact ⟨0, Nat.zero_le _, rfl, Below.refl _ _, rfl⟩
  case round =>
    obtain ⟨k, hk, rfl, hbl, hall⟩ := hrel
    have HA := Lib.hid hall
    clear hall
    by_cases hlt : k < ds.length
    · obtain ⟨b, o, rfl, g0, g1⟩ := (hv.step hbl) k ds[k] (List.getElem?_eq_getElem hlt)
      have hr' := hr ds[k] (List.getElem_mem hlt)
      generalize hvv : ds[k] = d at *
      obtain ⟨x, y⟩ := d
      simp only at g0 g1 hr'
      have HV := Lib.hid hvv
      have HR := Lib.hid hr'
      clear hvv hv hr hr'
      by_cases hs : soundS x y = true
      · go_wp2_with (go_at_call 23; refine (sound_any _ _ HR.out.1.1 HR.out.1.2 HR.out.2.1 HR.out.2.2 _).mono ?_; rintro e w' ⟨rfl, hb⟩)
        go_roundw
        case rel => exact ⟨k + 1, by omega, by go_num, by (repeat' first | (with_reducible first | exact .refl _ _ | assumption | apply balloc | apply Below.drew | apply bset | refine bstep ?_ ‹_› | refine bturn ?_ ‹_› ?_) | go_size), by rw [HA.out, allD_go hlt HV.out hs]⟩
        case measure => simp [intOf]; omega
      · replace hs : soundS x y = false := by simpa using hs
        go_wp2_with (go_at_call 23; refine (sound_any _ _ HR.out.1.1 HR.out.1.2 HR.out.2.1 HR.out.2.2 _).mono ?_; rintro e w' ⟨rfl, hb⟩)
        go_ret
        exact ⟨by rw [HA.out, allD_stop hlt HV.out hs]; rfl, by (repeat' first | (with_reducible first | exact .refl _ _ | assumption | apply balloc | apply Below.drew | apply bset | refine bstep ?_ ‹_› | refine bturn ?_ ‹_› ?_) | go_size)⟩
    · go_wp2
      go_ret
      exact ⟨by rw [HA.out, List.drop_of_length_le (by omega)]; rfl, hbl⟩

theorem all_lit {A : Option Addr} {n c : Nat} {ds : List (Int × Int)} {w : World} (hl : ds.length = n) (hv : DS w A ds) (hn : ds.length ≤ maxLen) (hr : ∀ d ∈ ds, I64 d.1 ∧ I64 d.2) :
    Calls Tryd.prog 9 #[.slice A n c] w fun e w' => e = .returned (.int .i64 (allD ds)) ∧ Below w.heap.size w w' := hl ▸ all_any A c ds w hv hn hr

/-- deci.all of one number, of two: what lies in the block that the call itself lays. -/
theorem all_1 (a b : Int) (ha : I64 a) (hb : I64 b) (g c : Nat) (T : TypeId) (w : World) (h : Blk w g T #[.int .i64 a, .int .i64 b]) :
    Calls Tryd.prog 9 #[.slice (some ⟨g, 0, none⟩) 1 c] w fun e w' => e = .returned (.int .i64 (if soundS a b then 0 else 2)) ∧ Below w.heap.size w w' :=
  (all_lit (ds := [(a, b)]) rfl (ds_one h) (by simp [maxLen]) (by simp [ha, hb])).mono fun e w' ⟨h1, h2⟩ => ⟨by rw [h1]; simp [allD], h2⟩
theorem all_2 (a b x y : Int) (ha : I64 a) (hb : I64 b) (hx : I64 x) (hy : I64 y) (g c : Nat) (T : TypeId) (w : World) (h : Blk w g T #[.int .i64 a, .int .i64 b, .int .i64 x, .int .i64 y]) :
    Calls Tryd.prog 9 #[.slice (some ⟨g, 0, none⟩) 2 c] w fun e w' => e = .returned (.int .i64 (if soundS a b && soundS x y then 0 else 2)) ∧ Below w.heap.size w w' :=
  (all_lit (ds := [(a, b), (x, y)]) rfl (ds_two h) (by simp [maxLen]) (by simp [ha, hb, hx, hy])).mono fun e w' ⟨h1, h2⟩ => ⟨by rw [h1]; simp [allD], h2⟩

theorem size_any (n s : Int) (h0 : -999999999999 ≤ n) (h1 : n ≤ 999999999999) (w : World) :
    Calls Tryd.prog 11 #[.agg #[.int .i64 n, .int .i64 s]] w fun e w' => e = .returned (.int .u64 (mag n)) ∧ w.alloc (.cells #[.int .i64 n, .int .i64 s] 23) = w' := by
  unfold mag
  by_cases hneg : n < 0
  · rw [if_pos hneg]
    go_enter Tryd.func11, Tryd.ntmps11
    go_wp2
    go_ret
    exact ⟨rfl, rfl⟩
  · rw [if_neg hneg]
    go_enter Tryd.func11, Tryd.ntmps11
    go_wp2
    go_ret
    exact ⟨rfl, rfl⟩

theorem sound_iff (n s : Int) : soundS n s = soundB n s := by
  by_cases hb : s < 0 ∨ 6 < s ∨ 999999999999 < n ∨ n < -999999999999
  · unfold soundS
    rw [make_bad hb]
    show false = soundB n s
    symm
    apply decide_eq_false
    rw [big_def]
    omega
  · have g : 0 ≤ s ∧ s ≤ 6 ∧ -999999999999 ≤ n ∧ n ≤ 999999999999 := by omega
    have hm : 0 ≤ mag n ∧ mag n ≤ 999999999999 := by unfold mag; split <;> omega
    have hbd := short_bd s.toNat (mag n) hm.1
    have hd : makeS n s = ⟨if decide (n < 0) = true then -(short s.toNat (mag n)).1 else (short s.toNat (mag n)).1, (short s.toNat (mag n)).2, 0⟩ := by
      rw [make_ok g]; unfold decS; rw [big_def, if_neg (by omega)]
    have hmod : mag n % 10 = 0 ↔ n % 10 = 0 := by unfold mag; split <;> omega
    unfold soundS
    rw [hd]
    by_cases hz : s = 0 ∨ ¬ n % 10 = 0
    · have hst : s.toNat = 0 ∨ ¬ mag n % 10 = 0 := by
        rcases hz with h | h
        · exact .inl (by omega)
        · exact .inr (by rw [hmod]; exact h)
      rw [short_stop hst]
      have e2 : ((s.toNat : Nat) : Int) = s := by omega
      have e1 : (if decide (n < 0) = true then -(mag n) else mag n) = n := by
        unfold mag
        by_cases h : n < 0 <;> simp [h]
      have hT : soundB n s = true := decide_eq_true (by rw [big_def]; omega)
      rw [hT]
      simp only [e1, e2]
      simp
    · have hF : soundB n s = false := decide_eq_false (by rw [big_def]; omega)
      rw [hF]
      obtain ⟨j, hj⟩ : ∃ j, s.toNat = j + 1 := ⟨s.toNat - 1, by omega⟩
      have hm10 : mag n % 10 = 0 := hmod.2 (by omega)
      rw [hj, short_go hm10]
      have hbd2 := short_bd j (mag n / 10) (by omega)
      have hne : ((short j (mag n / 10)).2 == s) = false := by
        simp only [beq_eq_false_iff_ne]
        omega
      simp only [hne, Bool.and_false]
theorem mag_bd {n : Int} (h0 : -999999999999 ≤ n) (h1 : n ≤ 999999999999) : mag n ≤ 999999999999 := by unfold mag; split <;> omega
theorem sound_bd {n s : Int} (h : soundS n s = true) : 0 ≤ s ∧ s ≤ 6 ∧ -999999999999 ≤ n ∧ n ≤ 999999999999 ∧ (s = 0 ∨ ¬ n % 10 = 0) := by
  rw [sound_iff] at h
  have := of_decide_eq_true h
  rw [big_def] at this
  exact ⟨this.1, this.2.1, this.2.2.1, this.2.2.2.1, this.2.2.2.2⟩

/-- Neg. -/
def negS (n s : Int) : Res := if soundS n s then ⟨-n, s, 0⟩ else ⟨0, 0, 2⟩
/-- cmp.Compare of two ints. -/
def cmpS (a b : Int) : Int := if a < b then -1 else if b < a then 1 else 0
end Go.Proofs.YtlmcjnekkhdmiaaDoor
