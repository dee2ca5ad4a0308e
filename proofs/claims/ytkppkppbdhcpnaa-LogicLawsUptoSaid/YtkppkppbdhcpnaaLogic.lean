/- The walks of package logic and of its reference: what each function answers, for every input. -/
import Derived.Test.YtkppkppbdhcpnaaKit
namespace Go.Proofs.Ytkppkppbdhcpnaa
open Go.RowKit

/-- A value (api.Value) as its five parts. -/
structure Val where
  k : Int
  n : Int
  s : Int
  t : ByteArray
  m : Int

def Val.v (v : Val) : Value := .agg #[.int .i64 v.k, .int .i64 v.n, .int .i64 v.s, .string v.t, .int .i64 v.m]

/-- Are two values one? -/
def veq (a b : Val) : Bool := a.k == b.k && (a.n == b.n && (a.s == b.s && (a.t.toList == b.t.toList && a.m == b.m)))

theorem run_val_eql (w : World) (a b c : Int) (d : ByteArray) (f a' b' c' : Int) (d' : ByteArray) (f' : Int) :
    (binOp .eql 27 (.agg #[.int .i64 a, .int .i64 b, .int .i64 c, .string d, .int .i64 f]) (.agg #[.int .i64 a', .int .i64 b', .int .i64 c', .string d', .int .i64 f'])).run Try.prog w
      = .ok (.bool (veq ⟨a, b, c, d, f⟩ ⟨a', b', c', d', f'⟩)) w := by
  go_simp
  unfold veq
  by_cases h1 : a = a' <;> by_cases h2 : b = b' <;> by_cases h3 : c = c' <;> by_cases h4 : d.toList = d'.toList <;> by_cases h5 : f = f' <;> simp [h1, h2, h3, h4, h5]
theorem run_val_neq (w : World) (a b c : Int) (d : ByteArray) (f a' b' c' : Int) (d' : ByteArray) (f' : Int) :
    (binOp .neq 27 (.agg #[.int .i64 a, .int .i64 b, .int .i64 c, .string d, .int .i64 f]) (.agg #[.int .i64 a', .int .i64 b', .int .i64 c', .string d', .int .i64 f'])).run Try.prog w
      = .ok (.bool (!veq ⟨a, b, c, d, f⟩ ⟨a', b', c', d', f'⟩)) w := by
  go_simp
  unfold veq
  by_cases h1 : a = a' <;> by_cases h2 : b = b' <;> by_cases h3 : c = c' <;> by_cases h4 : d.toList = d'.toList <;> by_cases h5 : f = f' <;> simp [h1, h2, h3, h4, h5]

attribute [local go_sem high] run_val_eql run_val_neq

def bit (b : Bool) : Int := if b then 1 else 0
def tv (b : Bool) : Val := ⟨3, 0, 0, ⟨#[]⟩, bit b⟩
def nul : Val := ⟨0, 0, 0, ⟨#[]⟩, 0⟩

theorem truth_any (b : Bool) (w : World) : Calls Try.prog 16 #[.bool b] w fun e w' => e = .returned (.agg #[.int .i64 3, .int .i64 0, .int .i64 0, .string ⟨#[]⟩, .int .i64 (bit b)]) ∧
    ∃ c1 c2 : Array Value, w' = (w.alloc (.cells c1 27)).alloc (.cells c2 27) := by
  cases b <;> go_enter Try.func16, Try.ntmps16
  all_goals (go_wp2; go_returns; exact ⟨rfl, _, _, rfl⟩)

theorem rtruth_any (b : Bool) (w : World) : Calls Try.prog 15 #[.bool b] w fun e w' => e = .returned (.agg #[.int .i64 3, .int .i64 0, .int .i64 0, .string ⟨#[]⟩, .int .i64 (bit b)]) ∧
    ∃ c1 : Array Value, w' = w.alloc (.cells c1 27) := by
  cases b <;> go_enter Try.func15, Try.ntmps15
  all_goals (go_wp2; go_returns; exact ⟨rfl, _, rfl⟩)

theorem is_any (a : Val) (w : World) : Calls Try.prog 14 #[.agg #[.int .i64 a.k, .int .i64 a.n, .int .i64 a.s, .string a.t, .int .i64 a.m]] w fun e w' => e = .returned (.bool (veq a (tv true))) ∧ Below w.heap.size w w' := by
  go_enter Try.func14, Try.ntmps14
  go_wp2_with fail
  go_region_held3 (fun w' => w'.cell? ⟨w.heap.size, 0, none⟩ = some (.int .i64 a.k) ∧ w'.cell? ⟨w.heap.size, 1, none⟩ = some (.int .i64 a.n) ∧ w'.cell? ⟨w.heap.size, 2, none⟩ = some (.int .i64 a.s) ∧ w'.cell? ⟨w.heap.size, 3, none⟩ = some (.string a.t) ∧ w'.cell? ⟨w.heap.size, 4, none⟩ = some (.int .i64 a.m)) ((first | (simp [*, World.cell?_alloc_some, World.cell?_setCell_far]; done) | (go_split_ands; (repeat' apply And.intro) <;> first | assumption | exact keep1 (by assumption) (by assumption) | (simp [go_sem]; done) | (repeat (first | (with_reducible assumption) | (with_reducible refine keepd ?_) | (with_reducible refine keepa2 ?_))))))
    ((go_at_call 16; refine (truth_any _ _).mono ?_; rintro e w' ⟨rfl, c1, c2, rfl⟩))
  go_wp2
  go_returns
  exact ⟨rfl, by (repeat' (first | (with_reducible exact Below.refl _ _) | (with_reducible assumption) | (with_reducible refine balloc ?_ _) | (with_reducible refine Below.drew ?_) | (with_reducible refine bset ?_ ?_ _) | (with_reducible refine bstep ?_ (by with_reducible assumption)) | go_size))⟩

def notS (a : Val) : Val := if veq a (tv true) then tv false else if veq a (tv false) then tv true else nul

theorem not_any (a : Val) (w : World) : Calls Try.prog 12 #[.agg #[.int .i64 a.k, .int .i64 a.n, .int .i64 a.s, .string a.t, .int .i64 a.m]] w fun e w' => e = .returned (notS a).v ∧ Below w.heap.size w w' := by
  go_enter Try.func12, Try.ntmps12
  go_wp2_with (go_at_call 16; refine (truth_any _ _).mono ?_; rintro e w' ⟨rfl, c1, c2, rfl⟩)
  all_goals go_returns
  all_goals exact ⟨by simp_all [notS, tv, nul, Val.v, bit], by (repeat' (first | (with_reducible exact Below.refl _ _) | (with_reducible assumption) | (with_reducible refine balloc ?_ _) | (with_reducible refine Below.drew ?_) | (with_reducible refine bset ?_ ?_ _) | (with_reducible refine bstep ?_ (by with_reducible assumption)) | go_size))⟩

end Go.Proofs.Ytkppkppbdhcpnaa
