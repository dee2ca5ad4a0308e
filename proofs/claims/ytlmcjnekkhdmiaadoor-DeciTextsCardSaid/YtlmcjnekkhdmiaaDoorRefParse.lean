/- The walk of the reference's Parse. -/
import Derived.Test.YtlmcjnekkhdmiaaDoorPdMath
import Derived.Test.YtlmcjnekkhdmiaaDoorRefDec
import Derived.Deep.DeepCutAuto
set_option linter.unusedVariables false
set_option linter.unusedSimpArgs false
namespace Go.Proofs.YtlmcjnekkhdmiaaDoor
open Go.RowKit
open Go.Lib hiding intOf
attribute [local go_sem high] run_dec_eql run_dec_neq

def isD (b : UInt8) : Bool := decide (48 ≤ b.toNat ∧ b.toNat ≤ 57)
def byteAt (s : ByteArray) (j : Nat) : UInt8 := s.data.toList.getD j 0
theorem byteAt_eq (s : ByteArray) (j : Nat) (h : j < s.size) : byteAt s j = s[j] := by
  unfold byteAt
  rw [List.getD_eq_getElem?_getD, Lib.data_getElem? s j h]
  rfl
/-- Byte j is the point, or a digit. -/
def okJ (r : ByteArray) (W : Nat) (dot : Bool) (j : Nat) : Prop := dot = true ∧ j = W ∨ isD (byteAt r j) = true
def dotAt (W : Nat) (dot : Bool) (i : Nat) : Int := if dot = true ∧ W < i then (W : Int) else -1

/-- What the reference's answer hangs on. -/
structure RP (s r wh pa pt : ByteArray) (minus dot : Bool) (u : Nat) (R : Res) : Prop where
  hs : s.size ≤ 140737488351233
  m1 : minus = true → 0 < s.size ∧ byteAt s 0 = 45 ∧ s.extract 1 s.size = r
  m0 : minus = false → s = r ∧ (s.size = 0 ∨ byteAt s 0 ≠ 45)
  w1 : wh.size ≤ r.size
  w2 : dot = true → wh.size < r.size ∧ byteAt r wh.size = 46 ∧ r.extract 0 wh.size = wh ∧ r.extract (wh.size + 1) r.size = pa
  w3 : dot = false → r = wh ∧ pa = ⟨#[]⟩
  w4 : ∀ j, j < wh.size → byteAt r j ≠ 46
  p1 : pa.size ≤ 140737488351233
  p2 : Lib.trimRightB pa.data.toList 48 = pt.data.toList
  r5 : ¬ (∀ j, j < r.size → okJ r wh.size dot j) → R = ⟨0, 0, 5⟩
  r6 : dot = true → pa.size = 0 → R = ⟨0, 0, 5⟩
  r7 : wh.size = 0 → R = ⟨0, 0, 5⟩
  r8 : 1 < wh.size → byteAt wh 0 = 48 → R = ⟨0, 0, 5⟩
  r9 : (∀ j, j < r.size → okJ r wh.size dot j) → ¬ (dot = true ∧ pa.size = 0) → wh.size ≠ 0 → ¬ (1 < wh.size ∧ byteAt wh 0 = 48) → (6 < pt.size ∨ 12 < wh.size) → R = ⟨0, 0, 3⟩
  ok : (∀ j, j < r.size → okJ r wh.size dot j) → ¬ (dot = true ∧ pa.size = 0) → wh.size ≠ 0 → ¬ (1 < wh.size ∧ byteAt wh 0 = 48) → pt.size ≤ 6 → wh.size ≤ 12 → R = decS pt.size (u : Int) minus ∧ u < 10 ^ 40 ∧ u < 10 ^ (wh ++ pt).size ∧ ∀ i, i < (wh ++ pt).size → isD (byteAt (wh ++ pt) i) = true ∧ (byteAt (wh ++ pt) i).toNat - 48 = dig u ((wh ++ pt).size - 1 - i)

theorem trim_step {P : List UInt8} (h : P.getLast? = some 48) : Lib.trimRightB P.dropLast 48 = Lib.trimRightB P 48 := by
  rw [List.getLast?_eq_some_iff] at h
  obtain ⟨l, rfl⟩ := h
  unfold Lib.trimRightB
  simp
theorem trim_stop {P : List UInt8} (h : P.getLast? ≠ some 48) : Lib.trimRightB P 48 = P := by
  cases hP : P.getLast? with
  | none => rw [List.getLast?_eq_none_iff] at hP; subst hP; rfl
  | some c =>
    have hc : c ≠ 48 := fun e => h (by rw [hP, e])
    rw [List.getLast?_eq_some_iff] at hP
    obtain ⟨l, rfl⟩ := hP
    unfold Lib.trimRightB
    have : (c == 48) = false := by rw [beq_eq_false_iff_ne]; exact hc
    simp [this]
theorem last_byte {P : ByteArray} (h : 0 < P.size) : P.data.toList.getLast? = some (P[P.size - 1]'(by omega)) := by
  rw [List.getLast?_eq_getElem?]
  have : P.data.toList.length = P.size := by simp
  rw [this]
  exact Lib.data_getElem? P (P.size - 1) (by omega)
theorem drop_last {P : ByteArray} : (P.extract 0 (P.size - 1)).data.toList = P.data.toList.dropLast := by
  rw [Lib.extract_from_zero, List.dropLast_eq_take]
  simp

set_option maxHeartbeats 8000000 in
set_option maxRecDepth 100000 in
theorem rparse_any {s r wh pa pt : ByteArray} {minus dot : Bool} {u : Nat} {R : Res} (H : RP s r wh pa pt minus dot u R) (w : World) :
    Calls Tryd.prog 7 #[.string s] w fun e w' => e = .returned (.tuple #[.agg #[.int .i64 R.n, .int .i64 R.s], .int .i64 R.e]) ∧ Below w.heap.size w w' := by
  have hb1 := Blk.new w 23 #[.int .i64 0, .int .i64 0]
  have HH := Lib.hid H
  have hsz := H.hs
  have HX : Hid (∀ w', w' = w.alloc (.cells #[.int .i64 0, .int .i64 0] 23) → Blk w' w.heap.size 23 #[.int .i64 0, .int .i64 0] ∧ Below w.heap.size w w') := fun w' hw => by
    subst hw; exact ⟨hb1, by (repeat' first | (with_reducible first | exact .refl _ _ | assumption | apply balloc | apply Below.drew | apply bset | refine bstep ?_ ‹_› | refine bturn ?_ ‹_› ?_) | go_size)⟩
  clear H hb1
  go_enter Tryd.func7, Tryd.ntmps7
  go_upto_region 1 with fail
  go_cut [4] (fun b wx => b = .bool minus ∧ wx = w.alloc (.cells #[.int .i64 0, .int .i64 0] 23))
  case first =>
    cases minus with
    | true =>
      have h1 := (HH.out.m1 rfl).1
      have h2 := (HH.out.m1 rfl).2.1
      rw [byteAt_eq s 0 h1] at h2
      have h3 : ((s[0].toNat : Nat) : Int) = 45 := by rw [h2]; rfl
      have h4 : (0 : Int) < (s.size : Int) := by omega
      clear h2
      go_wp2
      go_meet
      case rel => exact ⟨rfl, rfl⟩
    | false =>
      have h2 := (HH.out.m0 rfl).2
      by_cases h0 : s.size = 0
      · have h4 : ¬ (0 : Int) < (s.size : Int) := by omega
        clear h2
        go_wp2
        go_meet
        case rel => exact ⟨by first | (simp; done) | (simp; omega), rfl⟩
      · have h1 : 0 < s.size := by omega
        have h2' := h2.resolve_left h0
        rw [byteAt_eq s 0 h1] at h2'
        have h3 : ¬ ((s[0].toNat : Nat) : Int) = 45 := fun e => h2' (UInt8.toNat_inj.1 (by rw [show (45 : UInt8).toNat = 45 from rfl]; omega))
        have h4 : (0 : Int) < (s.size : Int) := by omega
        clear h2 h2' h0
        go_wp2
        go_meet
        case rel => exact ⟨by simp [h3], rfl⟩
  case rest =>
    obtain ⟨rfl, rfl⟩ := hcut
    go_upto_if 20 with fail
    go_cut [0] (fun x wx => x = .string r ∧ wx = w.alloc (.cells #[.int .i64 0, .int .i64 0] 23))
    case first =>
      cases minus with
      | true =>
        have h1 := (HH.out.m1 rfl).1
        have h2 := (HH.out.m1 rfl).2.2
        have h4 : (1 : Int) ≤ (s.size : Int) := by omega
        have HE := Lib.hid h2
        clear h2
        go_wp2
        go_meet
        case rel => exact ⟨by rw [HE.out], rfl⟩
      | false =>
        have h1 := (HH.out.m0 rfl).1
        have HE := Lib.hid h1
        clear h1
        go_wp2
        go_meet
        case rel => exact ⟨by rw [HE.out], rfl⟩
    case rest =>
      obtain ⟨rfl, rfl⟩ := hcut
      obtain ⟨W, hW⟩ : ∃ W, wh.size = W := ⟨_, rfl⟩
      have hWr : W ≤ r.size := by rw [← hW]; exact HH.out.w1
      have hr9 : r.size ≤ 140737488351233 := by
        cases hmi : minus with
        | true =>
          have := (HH.out.m1 hmi).2.2
          have h2 := congrArg ByteArray.size this
          rw [ByteArray.size_extract] at h2
          omega
        | false =>
          have := (HH.out.m0 hmi).1
          rw [← this]; exact hsz
      have HWw := Lib.hid hW
      clear hW
      go_wp2_with fail
      go_loop [5, 6] (fun v i => ∃ (j : Nat) (dv : Int), j ≤ r.size ∧ i = .int .i64 (j : Int) ∧ v = .int .i64 dv ∧ dv = dotAt W dot j ∧ ∀ l, l < j → okJ r W dot l) (fun _ i => r.size - (intOf i).toNat)
      case atStart => exact ⟨0, -1, by omega, rfl, rfl, by unfold dotAt; rw [if_neg (by omega)], by omega⟩
      case round =>
        obtain ⟨j, dv, hj, rfl, rfl, hdv, hok⟩ := hrel
        have HO := Lib.hid hok
        clear hok
        by_cases hlt : j < r.size
        · have hbe := byteAt_eq r j hlt
          have HBE := Lib.hid hbe
          by_cases hdotj : dot = true ∧ j = W
          · have hdv1 : dv = -1 := by rw [hdv]; unfold dotAt; rw [if_neg (by omega)]
            subst hdv1
            have hok2 : okJ r W dot j := .inl hdotj
            have HK := Lib.hid hok2
            have h46 := (HH.out.w2 hdotj.1).2.1
            rw [HWw.out, ← hdotj.2, hbe] at h46
            have x0 : ((r[j].toNat : Nat) : Int) = 46 := by rw [h46]; rfl
            have HD := Lib.hid hdotj
            clear hdv hok2 h46 hbe hdotj
            go_wp2
            go_round
            case rel => exact ⟨j + 1, _, by omega, by go_num, rfl, by unfold dotAt; rw [if_pos ⟨HD.out.1, by have := HD.out.2; omega⟩, HD.out.2], by
              intro l hl
              by_cases e : l = j
              · rw [e]; exact HK.out
              · exact HO.out l (by omega)⟩
            case measure => simp [intOf]; omega
          · have hnd : okJ r W dot j ↔ isD (byteAt r j) = true := by
              unfold okJ
              constructor
              · rintro (h | h)
                · exact absurd h hdotj
                · exact h
              · exact .inr
            have hstep : dotAt W dot (j + 1) = dv := by
              rw [hdv]
              unfold dotAt
              by_cases h : dot = true ∧ W < j
              · rw [if_pos h, if_pos ⟨h.1, by omega⟩]
              · rw [if_neg h, if_neg]
                rintro ⟨a, b⟩
                exact hdotj ⟨a, by
                  apply Classical.byContradiction
                  intro hne
                  exact h ⟨a, by omega⟩⟩
            have hnot46 : dv < 0 → byteAt r j ≠ 46 := by
              intro hneg
              apply HH.out.w4
              rw [HWw.out]
              apply Classical.byContradiction
              intro hge
              cases hdt : dot with
              | true =>
                rw [hdt] at hdotj hdv
                have hne : j ≠ W := fun e => hdotj ⟨rfl, e⟩
                unfold dotAt at hdv
                rw [if_pos ⟨rfl, by omega⟩] at hdv
                omega
              | false =>
                have := congrArg ByteArray.size (HH.out.w3 hdt).1
                have h2 := HWw.out
                omega
            have HSt := Lib.hid hstep
            have HNd := Lib.hid hnd
            rw [hbe] at hnot46
            by_cases h46 : r[j] = 46
            · have hge : ¬ dv < 0 := fun h => hnot46 h h46
              have x0 : ((r[j].toNat : Nat) : Int) = 46 := by rw [h46]; rfl
              have hbad : ¬ ∀ l, l < r.size → okJ r W dot l := fun hall => by
                have := HNd.out.1 (hall j hlt)
                rw [HBE.out, h46] at this
                revert this
                decide
              have hR := HH.out.r5 (by rw [HWw.out]; exact hbad)
              have HR := Lib.hid hR
              obtain ⟨hb1, hbl⟩ := HX.out _ rfl
              clear hdv hstep hnd hnot46 h46 hbe hbad hR hdotj
              go_wp2_with (refine wpList_store_blk hb1 rfl _ _ _ (by rfl) _ (by rfl) (by rfl) (by repeat first | with_reducible first | exact hb1 | apply Blk.alloc | apply Blk.drew | refine Blk.far ?_ (by simp <;> omega) _ | refine Blk.turn ?_ ‹_› (by omega)) (by rfl) (by kernel_rfl) (by simp [Value.oneCell']) ?_; intro wt hb1n ht)
              refine ret_blk2 rfl hb1n rfl Tryd.underlying23 rfl (by kernel_rfl) rfl ?_
              exact ⟨by rw [HR.out]; rfl, by (repeat' first | (with_reducible first | exact .refl _ _ | assumption | apply balloc | apply Below.drew | apply bset | refine bstep ?_ ‹_› | refine bturn ?_ ‹_› ?_) | go_size)⟩
            · have x0 : ¬ ((r[j].toNat : Nat) : Int) = 46 := fun e => h46 (UInt8.toNat_inj.1 (by rw [show (46 : UInt8).toNat = 46 from rfl]; omega))
              cases hd : isD (byteAt r j) with
              | true =>
                have hd2 := of_decide_eq_true hd
                rw [hbe] at hd2
                have x1 : ¬ ((r[j].toNat : Nat) : Int) < 48 := by omega
                have x2 : ¬ (57 : Int) < ((r[j].toNat : Nat) : Int) := by omega
                have HK := Lib.hid (HNd.out.2 hd)
                clear hdv hstep hnd hnot46 h46 hbe hdotj hd hd2
                go_wp2
                go_round
                case rel => exact ⟨j + 1, dv, by omega, by go_num, rfl, HSt.out.symm, by
                  intro l hl
                  by_cases e : l = j
                  · rw [e]; exact HK.out
                  · exact HO.out l (by omega)⟩
                case measure => simp [intOf]; omega
              | false =>
                have hd2 := of_decide_eq_false hd
                rw [hbe] at hd2
                have hbad : ¬ ∀ l, l < r.size → okJ r W dot l := fun hall => by
                  have := HNd.out.1 (hall j hlt)
                  rw [hd] at this
                  cases this
                have hR := HH.out.r5 (by rw [HWw.out]; exact hbad)
                have HR := Lib.hid hR
                obtain ⟨hb1, hbl⟩ := HX.out _ rfl
                by_cases x1 : ((r[j].toNat : Nat) : Int) < 48
                · clear hdv hstep hnd hnot46 h46 hbe hbad hR hdotj hd hd2
                  go_wp2_with (refine wpList_store_blk hb1 rfl _ _ _ (by rfl) _ (by rfl) (by rfl) (by repeat first | with_reducible first | exact hb1 | apply Blk.alloc | apply Blk.drew | refine Blk.far ?_ (by simp <;> omega) _ | refine Blk.turn ?_ ‹_› (by omega)) (by rfl) (by kernel_rfl) (by simp [Value.oneCell']) ?_; intro wt hb1n ht)
                  refine ret_blk2 rfl hb1n rfl Tryd.underlying23 rfl (by kernel_rfl) rfl ?_
                  exact ⟨by rw [HR.out]; rfl, by (repeat' first | (with_reducible first | exact .refl _ _ | assumption | apply balloc | apply Below.drew | apply bset | refine bstep ?_ ‹_› | refine bturn ?_ ‹_› ?_) | go_size)⟩
                · have x2 : (57 : Int) < ((r[j].toNat : Nat) : Int) := by omega
                  clear hdv hstep hnd hnot46 h46 hbe hbad hR hdotj hd hd2
                  go_wp2_with (refine wpList_store_blk hb1 rfl _ _ _ (by rfl) _ (by rfl) (by rfl) (by repeat first | with_reducible first | exact hb1 | apply Blk.alloc | apply Blk.drew | refine Blk.far ?_ (by simp <;> omega) _ | refine Blk.turn ?_ ‹_› (by omega)) (by rfl) (by kernel_rfl) (by simp [Value.oneCell']) ?_; intro wt hb1n ht)
                  refine ret_blk2 rfl hb1n rfl Tryd.underlying23 rfl (by kernel_rfl) rfl ?_
                  exact ⟨by rw [HR.out]; rfl, by (repeat' first | (with_reducible first | exact .refl _ _ | assumption | apply balloc | apply Below.drew | apply bset | refine bstep ?_ ‹_› | refine bturn ?_ ‹_› ?_) | go_size)⟩
        · have hall : ∀ l, l < r.size → okJ r W dot l := fun l hl => HO.out l (by omega)
          have HAll := Lib.hid hall
          have hdv2 : dv = if dot = true then (W : Int) else -1 := by
            rw [hdv]
            unfold dotAt
            cases hdt : dot with
            | true =>
              have := (HH.out.w2 hdt).1
              rw [HWw.out] at this
              rw [if_pos ⟨rfl, by omega⟩, if_pos rfl]
            | false => rw [if_neg (by simp), if_neg (by simp)]
          have HDv := Lib.hid hdv2
          clear hdv hdv2 hall HO
          go_upto_if 51 with fail
          go_cut [7, 8] (fun x y wx => x = .string wh ∧ y = .string pa ∧ ¬ (dot = true ∧ pa.size = 0) ∧ Blk wx w.heap.size 23 #[.int .i64 0, .int .i64 0] ∧ Below w.heap.size w wx)
          case first =>
            cases hdt : dot with
            | true =>
              have hdv3 : dv = (W : Int) := by rw [HDv.out, hdt]; rfl
              subst hdv3
              have h2 := (HH.out.w2 hdt).1
              have h3 := (HH.out.w2 hdt).2.2.1
              have h4 := (HH.out.w2 hdt).2.2.2
              rw [HWw.out] at h2 h3 h4
              have k1 : (W : Int) ≤ (r.size : Int) := by omega
              have k2 : (W : Int) + 1 ≤ (r.size : Int) := by omega
              have k3 : (0 : Int) ≤ (W : Int) := by omega
              have k4 : IntKind.i64.wrap ((W : Int) + 1) = (W : Int) + 1 := IntWalk.i64_in _ (by omega)
              have k5 : (0 : Int) ≤ (W : Int) + 1 := by omega
              obtain ⟨hb1, hbl⟩ := HX.out _ rfl
              by_cases hpa : pa.size = 0
              · have hR := HH.out.r6 hdt hpa
                have HR := Lib.hid hR
                have hpe : (pa.toList == []) = true := by
                  rw [Lib.toList_data]
                  have : pa.data.toList.length = 0 := by simpa using hpa
                  rw [List.length_eq_zero_iff.1 this]
                  rfl
                clear hR hpa hdt
                go_wp2_with fail
                go_region
                go_wp2_with (first | (refine wpList_store_blk hb1 rfl _ _ _ (by rfl) _ (by rfl) (by rfl) (by repeat first | with_reducible first | exact hb1 | apply Blk.alloc | apply Blk.drew | refine Blk.far ?_ (by simp <;> omega) _ | refine Blk.turn ?_ ‹_› (by omega)) (by rfl) (by kernel_rfl) (by simp [Value.oneCell']) ?_; intro wt hb1n ht))
                refine ret_blk2 rfl hb1n rfl Tryd.underlying23 rfl (by kernel_rfl) rfl ?_
                exact ⟨by rw [HR.out]; rfl, by (repeat' first | (with_reducible first | exact .refl _ _ | assumption | apply balloc | apply Below.drew | apply bset | refine bstep ?_ ‹_› | refine bturn ?_ ‹_› ?_) | go_size)⟩
              · have hpe : (pa.toList == []) = false := by
                  rw [Lib.toList_data]
                  have : pa.data.toList.length ≠ 0 := by simpa using hpa
                  cases hc : pa.data.toList with
                  | nil => rw [hc] at this; exact absurd rfl this
                  | cons a t => rfl
                have HPa := Lib.hid hpa
                clear hpa hdt
                go_wp2_with fail
                go_region
                go_wp2_with fail
                go_meet
                case rel => exact ⟨rfl, rfl, fun h => HPa.out h.2, hb1.drew, by (repeat' first | (with_reducible first | exact .refl _ _ | assumption | apply balloc | apply Below.drew | apply bset | refine bstep ?_ ‹_› | refine bturn ?_ ‹_› ?_) | go_size)⟩
            | false =>
              have hdv3 : dv = -1 := by rw [HDv.out, hdt]; rfl
              subst hdv3
              have h3 := (HH.out.w3 hdt).1
              have h4 := (HH.out.w3 hdt).2
              have HE := Lib.hid h3
              have HE2 := Lib.hid h4
              obtain ⟨hb1, hbl⟩ := HX.out _ rfl
              have HDt := Lib.hid hdt
              clear h3 h4 hdt
              go_wp2
              go_meet
              case rel => exact ⟨by rw [HE.out], by rw [HE2.out], fun h => by first | (have h1 := HDt.out.symm.trans h.1; cases h1) | (simp at h), hb1, by (repeat' first | (with_reducible first | exact .refl _ _ | assumption | apply balloc | apply Below.drew | apply bset | refine bstep ?_ ‹_› | refine bturn ?_ ‹_› ?_) | go_size)⟩
          case rest =>
            obtain ⟨rfl, rfl, hnp, hb1, hbl⟩ := hcut
            have HNp := Lib.hid hnp
            clear hnp hlt
            by_cases hw0 : wh.size = 0
            · have hR := HH.out.r7 hw0
              have HR := Lib.hid hR
              have hwe : (wh.toList == []) = true := by
                rw [Lib.toList_data]
                have : wh.data.toList.length = 0 := by simpa using hw0
                rw [List.length_eq_zero_iff.1 this]
                rfl
              clear hR hw0
              go_wp2_with (first | (refine wpList_store_blk hb1 rfl _ _ _ (by rfl) _ (by rfl) (by rfl) (by repeat first | with_reducible first | exact hb1 | apply Blk.alloc | apply Blk.drew | refine Blk.far ?_ (by simp <;> omega) _ | refine Blk.turn ?_ ‹_› (by omega)) (by rfl) (by kernel_rfl) (by simp [Value.oneCell']) ?_; intro wt hb1n ht))
              refine ret_blk2 rfl hb1n rfl Tryd.underlying23 rfl (by kernel_rfl) rfl ?_
              exact ⟨by rw [HR.out]; rfl, by (repeat' first | (with_reducible first | exact .refl _ _ | assumption | apply balloc | apply Below.drew | apply bset | refine bstep ?_ ‹_› | refine bturn ?_ ‹_› ?_) | go_size)⟩
            · have hwe : (wh.toList == []) = false := by
                rw [Lib.toList_data]
                have : wh.data.toList.length ≠ 0 := by simpa using hw0
                cases hc : wh.data.toList with
                | nil => rw [hc] at this; exact absurd rfl this
                | cons a t => rfl
              by_cases hlead : 1 < wh.size ∧ byteAt wh 0 = 48
              · obtain ⟨hl1, hl2⟩ := hlead
                have hR := HH.out.r8 hl1 hl2
                have HR := Lib.hid hR
                rw [byteAt_eq wh 0 (by omega)] at hl2
                have x0 : ((wh[0].toNat : Nat) : Int) = 48 := by rw [hl2]; rfl
                have x1 : (1 : Int) < (wh.size : Int) := by omega
                clear hR hw0 hl2
                go_wp2_with (first | (refine wpList_store_blk hb1 rfl _ _ _ (by rfl) _ (by rfl) (by rfl) (by repeat first | with_reducible first | exact hb1 | apply Blk.alloc | apply Blk.drew | refine Blk.far ?_ (by simp <;> omega) _ | refine Blk.turn ?_ ‹_› (by omega)) (by rfl) (by kernel_rfl) (by simp [Value.oneCell']) ?_; intro wt hb1n ht))
                refine ret_blk2 rfl hb1n rfl Tryd.underlying23 rfl (by kernel_rfl) rfl ?_
                exact ⟨by rw [HR.out]; rfl, by (repeat' first | (with_reducible first | exact .refl _ _ | assumption | apply balloc | apply Below.drew | apply bset | refine bstep ?_ ‹_› | refine bturn ?_ ‹_› ?_) | go_size)⟩
              · have HLd := Lib.hid hlead
                have HW0 := Lib.hid hw0
                go_upto_region 17 with fail
                go_cut [73] (fun x wx => x = .bool false ∧ wx = wc)
                case first =>
                  by_cases hl1 : 1 < wh.size
                  · have hl2 : byteAt wh 0 ≠ 48 := fun e => HLd.out ⟨hl1, e⟩
                    rw [byteAt_eq wh 0 (by omega)] at hl2
                    have x0 : ¬ ((wh[0].toNat : Nat) : Int) = 48 := fun e => hl2 (UInt8.toNat_inj.1 (by rw [show (48 : UInt8).toNat = 48 from rfl]; omega))
                    have x1 : (1 : Int) < (wh.size : Int) := by omega
                    clear hlead hw0 hl2
                    go_wp2
                    go_meet
                    case rel => exact ⟨by simp [x0], rfl⟩
                  · have x1 : ¬ (1 : Int) < (wh.size : Int) := by omega
                    clear hlead hw0
                    go_wp2
                    go_meet
                    case rel => exact ⟨by first | rfl | (simp; omega), rfl⟩
                case rest =>
                  obtain ⟨rfl, hwc⟩ := hcut
                  subst hwc
                  have hpsz := HH.out.p1
                  clear hlead hw0 hwe
                  go_wp2_with fail
                  go_loop [8] (fun y => ∃ P : ByteArray, y = .string P ∧ P.size ≤ pa.size ∧ Lib.trimRightB P.data.toList 48 = pt.data.toList) (fun y => match y with | .string P => P.size | _ => 0)
                  case atStart => exact ⟨pa, rfl, Nat.le_refl _, HH.out.p2⟩
                  case round =>
                    obtain ⟨P, rfl, hPs, hP⟩ := hrel
                    have HP := Lib.hid hP
                    clear hP
                    by_cases hgo : 0 < P.size ∧ P.data.toList.getLast? = some 48
                    · obtain ⟨h0, hl⟩ := hgo
                      have hl2 := last_byte h0
                      have hl3 : P[P.size - 1] = 48 := Option.some.inj (hl2.symm.trans hl)
                      have x0 : ((P[P.size - 1].toNat : Nat) : Int) = 48 := by rw [hl3]; rfl
                      have x1 : (0 : Int) < (P.size : Int) := by omega
                      have x2 : (P.size : Int) - 1 = ((P.size - 1 : Nat) : Int) := by omega
                      have x3 : ((P.size - 1 : Nat) : Int) ≤ (P.size : Int) := by omega
                      have x4 : ((P.size - 1 : Nat) : Int) < (P.size : Int) := by omega
                      have x5 : P.size - 1 < P.size := by omega
                      have HTr := Lib.hid (trim_step hl)
                      clear hl hl2 hl3
                      go_wp2
                      go_round
                      case rel => exact ⟨P.extract 0 (P.size - 1), rfl, by rw [ByteArray.size_extract]; omega, by rw [drop_last, HTr.out, HP.out]⟩
                      case measure =>
                        show (P.extract 0 (P.size - 1)).size < P.size
                        rw [ByteArray.size_extract]
                        omega
                    · have hPe : P = pt := by
                        have : P.data.toList.getLast? ≠ some 48 := by
                          intro e
                          by_cases h0 : 0 < P.size
                          · exact hgo ⟨h0, e⟩
                          · have e9 : P.data.toList.length = P.size := by simp
                            have : P.data.toList.length = 0 := by omega
                            rw [List.length_eq_zero_iff.1 this] at e
                            cases e
                        have h2 := HP.out
                        rw [trim_stop this] at h2
                        apply ByteArray.ext
                        exact Array.toList_inj.1 h2
                      subst hPe
                      go_upto_region 19 with fail
                      go_cut [85] (fun x wx => x = .bool false ∧ wx = wc)
                      case first =>
                        by_cases h0 : 0 < P.size
                        · have hl2 := last_byte h0
                          have hl3 : P[P.size - 1] ≠ 48 := fun e => hgo ⟨h0, by rw [hl2, e]⟩
                          have x0 : ¬ ((P[P.size - 1].toNat : Nat) : Int) = 48 := fun e => hl3 (UInt8.toNat_inj.1 (by rw [show (48 : UInt8).toNat = 48 from rfl]; omega))
                          have x1 : (0 : Int) < (P.size : Int) := by omega
                          have x2 : (P.size : Int) - 1 = ((P.size - 1 : Nat) : Int) := by omega
                          have x4 : ((P.size - 1 : Nat) : Int) < (P.size : Int) := by omega
                          have x5 : P.size - 1 < P.size := by omega
                          clear hl2 hl3 hgo
                          go_wp2
                          go_meet
                          case rel => exact ⟨by simp [x0], rfl⟩
                        · have x1 : ¬ (0 : Int) < (P.size : Int) := by omega
                          clear hgo
                          go_wp2
                          go_meet
                          case rel => exact ⟨by first | rfl | (simp; omega), rfl⟩
                      case rest =>
                        obtain ⟨rfl, hwc⟩ := hcut
                        subst hwc
                        clear hgo
                        have hall2 : ∀ l, l < r.size → okJ r wh.size dot l := by rw [HWw.out]; exact HAll.out
                        by_cases h3 : 6 < P.size ∨ 12 < wh.size
                        · have hR := HH.out.r9 hall2 HNp.out HW0.out HLd.out h3
                          have HR := Lib.hid hR
                          by_cases h6 : 6 < P.size
                          · have x1 : (6 : Int) < (P.size : Int) := by omega
                            clear hR hall2 h3
                            go_wp2_with (first | (refine wpList_store_blk hb1 rfl _ _ _ (by rfl) _ (by rfl) (by rfl) (by repeat first | with_reducible first | exact hb1 | apply Blk.alloc | apply Blk.drew | refine Blk.far ?_ (by simp <;> omega) _ | refine Blk.turn ?_ ‹_› (by omega)) (by rfl) (by kernel_rfl) (by simp [Value.oneCell']) ?_; intro wt hb1n ht))
                            refine ret_blk2 rfl hb1n rfl Tryd.underlying23 rfl (by kernel_rfl) rfl ?_
                            exact ⟨by rw [HR.out]; rfl, by (repeat' first | (with_reducible first | exact .refl _ _ | assumption | apply balloc | apply Below.drew | apply bset | refine bstep ?_ ‹_› | refine bturn ?_ ‹_› ?_) | go_size)⟩
                          · have x1 : ¬ (6 : Int) < (P.size : Int) := by omega
                            have x2 : (12 : Int) < (wh.size : Int) := by omega
                            clear hR hall2 h3
                            go_wp2_with (first | (refine wpList_store_blk hb1 rfl _ _ _ (by rfl) _ (by rfl) (by rfl) (by repeat first | with_reducible first | exact hb1 | apply Blk.alloc | apply Blk.drew | refine Blk.far ?_ (by simp <;> omega) _ | refine Blk.turn ?_ ‹_› (by omega)) (by rfl) (by kernel_rfl) (by simp [Value.oneCell']) ?_; intro wt hb1n ht))
                            refine ret_blk2 rfl hb1n rfl Tryd.underlying23 rfl (by kernel_rfl) rfl ?_
                            exact ⟨by rw [HR.out]; rfl, by (repeat' first | (with_reducible first | exact .refl _ _ | assumption | apply balloc | apply Below.drew | apply bset | refine bstep ?_ ‹_› | refine bturn ?_ ‹_› ?_) | go_size)⟩
                        · obtain ⟨hR, hu40, huL, hdg⟩ := HH.out.ok hall2 HNp.out HW0.out HLd.out (by omega) (by omega)
                          have x1 : ¬ (6 : Int) < (P.size : Int) := by omega
                          have x2 : ¬ (12 : Int) < (wh.size : Int) := by omega
                          have hP6 : P.size ≤ 6 := by omega
                          have hA18 : (wh ++ P).size ≤ 18 := by rw [ByteArray.size_append]; omega
                          obtain ⟨A, hA⟩ : ∃ A, wh ++ P = A := ⟨_, rfl⟩
                          rw [hA] at hdg huL hA18
                          have HR := Lib.hid hR
                          have HU40 := Lib.hid hu40
                          have HUL := Lib.hid huL
                          have HDg := Lib.hid hdg
                          have hmk : ∀ W, (Instr.makeSlice 52 (.int .i64 60) (.int .i64 60)).run Tryd.prog W = .ok (.slice (some ⟨W.heap.size, 0, none⟩) 60 60) (W.alloc (.cells (rowA 0 60) 3)) := fun W => mk_row 60 (by decide) W
                          have hg := Blk.new wc 3 (rowA 0 60)
                          have hr := hb1.alloc (.cells (rowA 0 60) 3)
                          have hbl2 : Below w.heap.size w (wc.alloc (.cells (rowA 0 60) 3)) := by (repeat' first | (with_reducible first | exact .refl _ _ | assumption | apply balloc | apply Below.drew | apply bset | refine bstep ?_ ‹_› | refine bturn ?_ ‹_› ?_) | go_size)
                          have hgh := hb1.lt
                          have HGN := Lib.hid hg
                          clear hR hu40 huL hdg hall2 h3 hg
                          go_wp2_with fail
                          go_loopw [11] (fun i wr => ∃ k : Nat, k ≤ A.size ∧ i = .int .i64 (k : Int) ∧ Blk wr wc.heap.size 3 (rowA (u / 10 ^ (A.size - k) * 10 ^ (A.size - k)) 60) ∧ Blk wr w.heap.size 23 #[.int .i64 0, .int .i64 0] ∧ Below w.heap.size w wr) (fun i _ => A.size - (intOf i).toNat)
                          case atStart => exact ⟨0, by omega, rfl, by rw [Nat.sub_zero, Nat.div_eq_of_lt HUL.out, Nat.zero_mul]; exact HGN.out, hr, hbl2⟩
                          case round =>
                            obtain ⟨k, hk, rfl, hB, hr2, hbr⟩ := hrel
                            have hlB := hB.lt
                            have hlR := hr2.lt
                            by_cases hkl : k < A.size
                            · obtain ⟨e, he⟩ : ∃ e, A.size - 1 - k = e := ⟨_, rfl⟩
                              have he60 : e < 60 := by omega
                              have hAe : A.size - k = e + 1 := by omega
                              obtain ⟨hd1, hd2⟩ := HDg.out k hkl
                              rw [he] at hd2
                              have hd3 := of_decide_eq_true hd1
                              have hbe := byteAt_eq A k hkl
                              rw [hbe] at hd2 hd3
                              have y0 : (48 : Int) ≤ ((A[k].toNat : Nat) : Int) := by omega
                              have y1 : ((A[k].toNat : Nat) : Int) ≤ 57 := by omega
                              have hval : (dig u e : Int) = ((A[k].toNat : Nat) : Int) - 48 := by omega
                              have hidx : (A.size : Int) - 1 - (k : Int) = (e : Int) := by omega
                              have he0 : (0 : Int) ≤ (e : Int) := by omega
                              have he6 : (e : Int) < 60 := by omega
                              rw [hAe] at hB
                              have c3 := (hB.cell e).trans (rowA_get _ he60)
                              have z3 := hB.frozen e
                              have HVal := Lib.hid hval
                              have HE1 := Lib.hid he
                              have HE2 := Lib.hid hAe
                              clear hd1 hd2 hd3 hbe hval he hAe
                              go_wp2
                              go_roundw
                              case rel => exact ⟨k + 1, by omega, by go_num, by
                                have := hB.set_ e (.int .i64 (((A[k].toNat : Nat) : Int) - 48))
                                rw [rowA_down HVal.out] at this
                                rw [show A.size - (k + 1) = e by have := HE2.out; omega]
                                exact this, hr2.far (by simp; omega) _, bset (by (repeat' first | (with_reducible first | exact .refl _ _ | assumption | apply balloc | apply Below.drew | apply bset | refine bstep ?_ ‹_› | refine bturn ?_ ‹_› ?_) | go_size)) (by simp; omega) _⟩
                              case measure => simp [intOf]; omega
                            · obtain rfl : k = A.size := by omega
                              rw [Nat.sub_self, Nat.pow_zero, Nat.div_one, Nat.mul_one] at hB
                              have HBk := Lib.hid hB
                              have HDc := Lib.hid (fun W h => rdec_low wc.heap.size 0 60 u P.size minus W HU40.out hP6 h)
                              clear hA hB
                              go_wp2_with fail
                              refine (HDc.out _ (Row.of_blk HBk.out)).mono ?_
                              rintro e w9 ⟨rfl, hb9⟩
                              replace hr2 := hr2.step hb9
                              go_wp2_with (first | (refine wpList_store_blk hr2 rfl _ _ _ (by rfl) _ (by rfl) (by rfl) (by repeat first | with_reducible first | exact hr2 | apply Blk.alloc | apply Blk.drew | refine Blk.far ?_ (by simp <;> omega) _ | refine Blk.turn ?_ ‹_› (by omega)) (by rfl) (by kernel_rfl) (by simp [Value.oneCell']) ?_; intro wt hr2n ht))
                              refine ret_blk2 rfl hr2n rfl Tryd.underlying23 rfl (by kernel_rfl) rfl ?_
                              exact ⟨by rw [HR.out]; rfl, by (repeat' first | (with_reducible first | exact .refl _ _ | assumption | apply balloc | apply Below.drew | apply bset | refine bstep ?_ ‹_› | refine bturn ?_ ‹_› ?_) | go_size)⟩
end Go.Proofs.YtlmcjnekkhdmiaaDoor
