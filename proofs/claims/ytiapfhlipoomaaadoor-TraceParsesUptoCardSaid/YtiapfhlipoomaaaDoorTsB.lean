/- Lemmas for the claim (what no proof of it names is left out). -/
import Derived.Test.YtiapfhlipoomaaaDoorTsA
import Derived.Handy
import Derived.BigRegion
import Derived.Laws.Rows
import Derived.Laws.Tables
import Derived.Shelf.Strings.Builder1
import Derived.Shelf.Strings.Builder2
import Derived.Shelf.Strings.OnBuilder
import Derived.Shelf.Strings.BuilderF
import Derived.Shelf.Strings.BuilderK
import Derived.Shelf.Utf8.RuneCount
import Derived.Shelf.Strings.Builder2Cap
import Derived.Shelf.Strconv.Atoi
import Derived.Shelf.Strconv.Itoa0
import Derived.Shelf.Strconv.Itoa1
import Derived.Shelf.LaysM
import Derived.Shelf.Strconv.Itoa2
import Derived.Shelf.Strconv.Itoa3
import Derived.Shelf.Strconv.AtoiErrFast
import Derived.Shelf.Strconv.ParseIntEmpty
import Derived.Shelf.Strconv.AtoiFail
import Derived.Shelf.Strconv.Clone
import Derived.Shelf.Strconv.SyntaxError
import Derived.Shelf.LaysC
import Derived.Shelf.Strconv.ToError
import Derived.Shelf.Strconv.Lower
import Derived.Shelf.Strconv.ParseUint10
import Derived.Shelf.Strconv.ParseUint10Empty
import Derived.Shelf.Strconv.ParseUint10Any
import Derived.Shelf.Strconv.ParseInt10
import Derived.Shelf.Strconv.AtoiLong
import Derived.Shelf.Strconv.AtoiInnerAll
import Derived.Shelf.Strconv.RangeError
import Derived.Shelf.Strconv.ToErrorRange
import Derived.Shelf.Strconv.AtoiAll
import Derived.Shelf.Strconv.ErrVarAll
import Derived.Shelf.Strings.Search1
import Derived.Shelf.Strings.Search2
import Derived.Shelf.Strings.Search3
import Derived.Shelf.Strings.Count
import Derived.Shelf.Strings.Shaped
import Derived.Shelf.Strings.Split
import Derived.Shelf.Strings.SplitShaped
import Derived.Shelf.Unicode.Decode
import Derived.Shelf.Strings.RuneCount
import Derived.Shelf.Strings.Explode
import Derived.Shelf.Unicode.DecodeSlow
import Derived.Shelf.Unicode.DecodeAny
import Derived.Shelf.Strings.BuilderCap
import Derived.Test.YtiapfhlipoomaaaDoorProg
import Derived.Lib.AppendIntMem
import Derived.OpenShut
import Derived.Lib.Builder
import Derived.Lib.AppendStr
import Derived.Lib.MakeNoZero
import Derived.Laws.Externs
import Derived.Laws.Cover3
section
namespace Go.Proofs.YtiapfhlipoomaaaDoor.Print
open Go.RowKit
open Go.RowKit Go.Proofs.YtiapfhlipoomaaaDoorW.PrintWords Go.Proofs.YtiapfhlipoomaaaDoorW.PrintLast Go.Proofs.YtiapfhlipoomaaaDoorW.PrintMore
attribute [local go_sem] max2_int min2_int max_two min_two max_three min_three max_four min_four
set_option linter.unusedVariables false
set_option linter.unusedSimpArgs false
def trace_traps.f  : Option (List ByteArray) := some (([(⟨#[]⟩ : ByteArray), (⟨#[100, 105, 118, 105, 100, 101]⟩ : ByteArray), (⟨#[105, 110, 100, 101, 120]⟩ : ByteArray), (⟨#[102, 105, 108, 108]⟩ : ByteArray), (⟨#[110, 105, 108]⟩ : ByteArray), (⟨#[119, 114, 111, 110, 103]⟩ : ByteArray)] : List ByteArray))
def trace_counters.f  : Option (List ByteArray) := some (([(⟨#[]⟩ : ByteArray), (⟨#[112, 114, 111, 99, 115]⟩ : ByteArray), (⟨#[108, 105, 118, 101]⟩ : ByteArray), (⟨#[99, 104, 97, 110, 115]⟩ : ByteArray), (⟨#[116, 105, 99, 107, 115]⟩ : ByteArray), (⟨#[99, 101, 108, 108, 115]⟩ : ByteArray), (⟨#[100, 101, 112, 116, 104]⟩ : ByteArray)] : List ByteArray))
def slices_Equal_int_int.l0 : Nat → List Int → List Int → Int → Int → Option (Bool)
  | 0, _, _, _, _ => none
  | k + 1, x0, x1, x12, x13 => if x13 < x12 then (if 0 ≤ x13 then (if x13 < (x0.length : Int) then (if x13 < (x1.length : Int) then (if (rd x0 x13) = (rd x1 x13) then (slices_Equal_int_int.l0 k x0 x1 x12 (wrap64 (x13 + 1))) else (some false)) else (none)) else (none)) else (none)) else (some true)
def slices_Equal_int_int.f (k : Nat) (l0 : List Int) (l1 : List Int) : Option (Bool) := if (l0.length : Int) = (l1.length : Int) then (slices_Equal_int_int.l0 k l0 l1 (l0.length : Int) 0) else (some false)
theorem slices_Equal_int_int.mono_l : ∀ k, (∀ y0 y1 y2 y3, LeO (slices_Equal_int_int.l0 k y0 y1 y2 y3) (slices_Equal_int_int.l0 (k + 1) y0 y1 y2 y3))
  | 0 => fun _ _ _ _ r h => by simp [slices_Equal_int_int.l0] at h
  | k + 1 => by
    have ih0 := slices_Equal_int_int.mono_l k
    · intro y0 y1 y2 y3
      unfold slices_Equal_int_int.l0
      repeat' first
      | (with_reducible exact ih0 _ _ _ _)
      | (with_reducible exact LeO.refl _)
      | (with_reducible exact LeO.none _)
      | (with_reducible refine LeO.ite ?_ ?_)
      | (with_reducible refine LeO.bind ?_ (fun _ => ?_))
      | exact ih0 _ _ _ _
      | exact LeO.none _
      | refine LeO.ite ?_ ?_
      | refine LeO.bind ?_ (fun _ => ?_)
theorem slices_Equal_int_int.mono : ∀ a0 a1 k, LeO (slices_Equal_int_int.f k a0 a1) (slices_Equal_int_int.f (k + 1) a0 a1) := by
  intro a0 a1 k
  have ih0 := slices_Equal_int_int.mono_l k
  unfold slices_Equal_int_int.f
  repeat' first
      | (with_reducible exact ih0 _ _ _ _)
      | (with_reducible exact LeO.refl _)
      | (with_reducible exact LeO.none _)
      | (with_reducible refine LeO.ite ?_ ?_)
      | (with_reducible refine LeO.bind ?_ (fun _ => ?_))
      | exact ih0 _ _ _ _
      | exact LeO.none _
      | refine LeO.ite ?_ ?_
      | refine LeO.bind ?_ (fun _ => ?_)
set_option maxHeartbeats 8000000 in
set_option maxRecDepth 100000 in
theorem slices_Equal_int_int.calls (k : Nat) (A0 : Option Addr) (c0 : Nat) (l0 : List Int) (A1 : Option Addr) (c1 : Nat) (l1 : List Int) (r : Bool) (w : World) (hr0 : Kd.C (Kd.int .i64) w A0 l0.length l0) (hc0 : l0.length ≤ c0) (hr1 : Kd.C (Kd.int .i64) w A1 l1.length l1) (hc1 : l1.length ≤ c1) (h : slices_Equal_int_int.f k l0 l1 = some r) :
    Calls Tryd.prog 42 #[.slice A0 l0.length c0, .slice A1 l1.length c1] w fun e w' => e = .returned (.bool r) ∧ Drawn0 w w' := by
  have HR0 := Aside0.mk hr0
  have HC0 := Aside0.mk hc0
  clear hr0 hc0
  have HR1 := Aside0.mk hr1
  have HC1 := Aside0.mk hc1
  clear hr1 hc1
  have H : (if (l0.length : Int) = (l1.length : Int) then (slices_Equal_int_int.l0 k l0 l1 (l0.length : Int) 0) else (some false)) = some r := h
  clear h
  by_cases c3 : (l0.length : Int) = (l1.length : Int)
  · rw [if_pos c3] at H
    have c3b0 : ((l0.length : Int) == (l1.length : Int)) = true := beq_iff_eq.mpr c3
    have c3b1 : ((l0.length : Int) != (l1.length : Int)) = false := bne_eq_false_iff_eq.mpr c3
    have c3b2 : (l0.length == l1.length) = true := by first | simpa using c3 | (simp at c3 ⊢; omega)
    clear c3
    have H' := Aside0.mk H
    clear H
    go_enter Tryd.func42, Tryd.ntmps42
    go_wp2
    repeat (go_quiet (fail); try go_wp2)
    go_loopg [13] k (fun kq v13 w' => ∃ (x13_1 : Int), v13 = .int .i64 x13_1 ∧ Aside0 (slices_Equal_int_int.l0 kq l0 l1 (l0.length : Int) x13_1 = some r) ∧ Aside0 (kq ≤ k) ∧ Drawn0 w w')
    case atStart => exact ⟨(0), (by first | rfl | (simp; done) | (simp [*]; done)), H', ⟨Nat.le_refl _⟩, by repeat (first | exact Drawn0.refl _ | apply Drawn0.step)⟩
    case round =>
      clear H'
      try clear c1
      try clear p2
      try clear c3
      try clear c3b0
      try clear c3b1
      try clear c3b2
      obtain ⟨x13_1, rfl, HA, HK1, ⟨m1, rfl⟩⟩ := hrel
      cases gk with
      | zero => exact absurd HA.out (by simp [slices_Equal_int_int.l0])
      | succ k1 =>
        have H := HA.out
        clear HA
        simp only [slices_Equal_int_int.l0] at H
        by_cases c4 : x13_1 < (l0.length : Int)
        · rw [if_pos c4] at H
          have c4b0 : decide (x13_1 < (l0.length : Int)) = true := decide_eq_true c4
          clear c4
          by_cases c5 : 0 ≤ x13_1
          · rw [if_pos c5] at H
            have c5b0 : decide (0 ≤ x13_1) = true := decide_eq_true c5
            clear c5
            by_cases c6 : x13_1 < (l0.length : Int)
            · rw [if_pos c6] at H
              have c6b0 : decide (x13_1 < (l0.length : Int)) = true := decide_eq_true c6
              clear c6
              by_cases c7 : x13_1 < (l1.length : Int)
              · rw [if_pos c7] at H
                have c7b0 : decide (x13_1 < (l1.length : Int)) = true := decide_eq_true c7
                clear c7
                by_cases c8 : (rd l0 x13_1) = (rd l1 x13_1)
                · rw [if_pos c8] at H
                  have c8b0 : ((rd l0 x13_1) == (rd l1 x13_1)) = true := beq_iff_eq.mpr c8
                  have c8b1 : ((rd l0 x13_1) != (rd l1 x13_1)) = false := bne_eq_false_iff_eq.mpr c8
                  clear c8
                  have H' := Aside0.mk H
                  clear H
                  have p107 : 0 ≤ (x13_1 : Int) := of_decide_eq_true (by first | (with_reducible assumption) | assumption)
                  have q107 : x13_1 < (l0.length : Int) := of_decide_eq_true (by first | (with_reducible assumption) | assumption)
                  obtain ⟨ad107, e107, hx107_0⟩ := Kd.at_int HR0.out x13_1 p107 q107
                  cases e107
                  replace p107 := eq_true p107
                  replace q107 := eq_true q107
                  have p108 : 0 ≤ (x13_1 : Int) := of_decide_eq_true (by first | (with_reducible assumption) | assumption)
                  have q108 : x13_1 < (l1.length : Int) := of_decide_eq_true (by first | (with_reducible assumption) | assumption)
                  obtain ⟨ad108, e108, hx108_0⟩ := Kd.at_int HR1.out x13_1 p108 q108
                  cases e108
                  replace p108 := eq_true p108
                  replace q108 := eq_true q108
                  go_wp2
                  repeat (go_quiet (fail); try go_wp2)
                  go_roundg k1
                  case measure => have := HK1.out; omega
                  case rel => exact ⟨(wrap64 (x13_1 + 1)), (by first | rfl | (simp; done) | (simp [*]; done)), H', ⟨by have := HK1.out; omega⟩, by repeat (first | exact Drawn0.refl _ | apply Drawn0.step)⟩
                · rw [if_neg c8] at H
                  have c8b0 : ((rd l0 x13_1) == (rd l1 x13_1)) = false := beq_eq_false_iff_ne.mpr c8
                  have c8b1 : ((rd l0 x13_1) != (rd l1 x13_1)) = true := bne_iff_ne.mpr c8
                  obtain rfl := Option.some.inj H
                  have p107 : 0 ≤ (x13_1 : Int) := of_decide_eq_true (by first | (with_reducible assumption) | assumption)
                  have q107 : x13_1 < (l0.length : Int) := of_decide_eq_true (by first | (with_reducible assumption) | assumption)
                  obtain ⟨ad107, e107, hx107_0⟩ := Kd.at_int HR0.out x13_1 p107 q107
                  cases e107
                  replace p107 := eq_true p107
                  replace q107 := eq_true q107
                  have p108 : 0 ≤ (x13_1 : Int) := of_decide_eq_true (by first | (with_reducible assumption) | assumption)
                  have q108 : x13_1 < (l1.length : Int) := of_decide_eq_true (by first | (with_reducible assumption) | assumption)
                  obtain ⟨ad108, e108, hx108_0⟩ := Kd.at_int HR1.out x13_1 p108 q108
                  cases e108
                  replace p108 := eq_true p108
                  replace q108 := eq_true q108
                  go_wp2
                  repeat (go_quiet (fail); try go_wp2)
                  go_ret
                  exact ⟨by first | rfl | (simp; done) | (simp [*]; done), by repeat (first | exact Drawn0.refl _ | apply Drawn0.step)⟩
              · rw [if_neg c7] at H
                exact absurd H (by simp)
            · rw [if_neg c6] at H
              exact absurd H (by simp)
          · rw [if_neg c5] at H
            exact absurd H (by simp)
        · rw [if_neg c4] at H
          have c4b0 : decide (x13_1 < (l0.length : Int)) = false := decide_eq_false c4
          clear c4
          obtain rfl := Option.some.inj H
          go_wp2
          repeat (go_quiet (fail); try go_wp2)
          go_ret
          exact ⟨by first | rfl | (simp; done) | (simp [*]; done), by repeat (first | exact Drawn0.refl _ | apply Drawn0.step)⟩
  · rw [if_neg c3] at H
    have c3b0 : ((l0.length : Int) == (l1.length : Int)) = false := beq_eq_false_iff_ne.mpr c3
    have c3b1 : ((l0.length : Int) != (l1.length : Int)) = true := bne_iff_ne.mpr c3
    have c3b2 : (l0.length == l1.length) = false := by first | simpa using c3 | (simp at c3 ⊢; omega)
    obtain rfl := Option.some.inj H
    go_enter Tryd.func42, Tryd.ntmps42
    go_wp2
    repeat (go_quiet (fail); try go_wp2)
    go_ret
    exact ⟨by first | rfl | (simp; done) | (simp [*]; done), by repeat (first | exact Drawn0.refl _ | apply Drawn0.step)⟩
def trace_same.f (k : Nat) (a0_0 : Int) (a0_1 : Int) (a0_2 : Int) (a0_3 : Int) (a0_4 : Int) (a0_5 : Int) (a0_6 : Int) (l0_7 : List Int) (a1_0 : Int) (a1_1 : Int) (a1_2 : Int) (a1_3 : Int) (a1_4 : Int) (a1_5 : Int) (a1_6 : Int) (l1_7 : List Int) : Option (Bool) := if a0_0 = a1_0 then (if a0_1 = a1_1 then (if a0_2 = a1_2 then (if a0_3 = a1_3 then (if a0_4 = a1_4 then (if a0_5 = a1_5 then (if a0_6 = a1_6 then ((slices_Equal_int_int.f k l0_7 l1_7).bind fun t111 => (some t111)) else (some false)) else (some false)) else (some false)) else (some false)) else (some false)) else (some false)) else (some false)
theorem trace_same.mono : ∀ a0 a1 a2 a3 a4 a5 a6 a7 a8 a9 a10 a11 a12 a13 a14 a15 k, LeO (trace_same.f k a0 a1 a2 a3 a4 a5 a6 a7 a8 a9 a10 a11 a12 a13 a14 a15) (trace_same.f (k + 1) a0 a1 a2 a3 a4 a5 a6 a7 a8 a9 a10 a11 a12 a13 a14 a15) := by
  intro a0 a1 a2 a3 a4 a5 a6 a7 a8 a9 a10 a11 a12 a13 a14 a15 k
  unfold trace_same.f
  repeat' first
      | (with_reducible exact slices_Equal_int_int.mono _ _ _)
      | (with_reducible exact LeO.refl _)
      | (with_reducible exact LeO.none _)
      | (with_reducible refine LeO.ite ?_ ?_)
      | (with_reducible refine LeO.bind ?_ (fun _ => ?_))
      | exact slices_Equal_int_int.mono _ _ _
      | exact LeO.none _
      | refine LeO.ite ?_ ?_
      | refine LeO.bind ?_ (fun _ => ?_)
set_option maxHeartbeats 8000000 in
set_option maxRecDepth 100000 in
theorem trace_same.calls (k : Nat) (a0_0 : Int) (a0_1 : Int) (a0_2 : Int) (a0_3 : Int) (a0_4 : Int) (a0_5 : Int) (a0_6 : Int) (A0_7 : Option Addr) (c0_7 : Nat) (l0_7 : List Int) (a1_0 : Int) (a1_1 : Int) (a1_2 : Int) (a1_3 : Int) (a1_4 : Int) (a1_5 : Int) (a1_6 : Int) (A1_7 : Option Addr) (c1_7 : Nat) (l1_7 : List Int) (r : Bool) (w : World) (hr0_7 : Kd.C (Kd.int .i64) w A0_7 l0_7.length l0_7) (hc0_7 : l0_7.length ≤ c0_7) (hr1_7 : Kd.C (Kd.int .i64) w A1_7 l1_7.length l1_7) (hc1_7 : l1_7.length ≤ c1_7) (h : trace_same.f k a0_0 a0_1 a0_2 a0_3 a0_4 a0_5 a0_6 l0_7 a1_0 a1_1 a1_2 a1_3 a1_4 a1_5 a1_6 l1_7 = some r) :
    Calls Tryd.prog 24 #[.agg #[.int .i64 a0_0, .int .i64 a0_1, .int .i64 a0_2, .int .i64 a0_3, .int .i64 a0_4, .int .i64 a0_5, .int .i64 a0_6, .slice A0_7 l0_7.length c0_7], .agg #[.int .i64 a1_0, .int .i64 a1_1, .int .i64 a1_2, .int .i64 a1_3, .int .i64 a1_4, .int .i64 a1_5, .int .i64 a1_6, .slice A1_7 l1_7.length c1_7]] w fun e w' => e = .returned (.bool r) ∧ Below w.heap.size w w' := by
  have hu24 := Tryd.underlying24
  have HR0_7 := Aside0.mk hr0_7
  have HC0_7 := Aside0.mk hc0_7
  clear hr0_7 hc0_7
  have HR1_7 := Aside0.mk hr1_7
  have HC1_7 := Aside0.mk hc1_7
  clear hr1_7 hc1_7
  have HB := Aside0.mk (Below.refl w.heap.size w)
  have H : (if a0_0 = a1_0 then (if a0_1 = a1_1 then (if a0_2 = a1_2 then (if a0_3 = a1_3 then (if a0_4 = a1_4 then (if a0_5 = a1_5 then (if a0_6 = a1_6 then ((slices_Equal_int_int.f k l0_7 l1_7).bind fun t111 => (some t111)) else (some false)) else (some false)) else (some false)) else (some false)) else (some false)) else (some false)) else (some false)) = some r := h
  clear h
  by_cases c3 : a0_0 = a1_0
  · rw [if_pos c3] at H
    have c3b0 : (a0_0 == a1_0) = true := beq_iff_eq.mpr c3
    have c3b1 : (a0_0 != a1_0) = false := bne_eq_false_iff_eq.mpr c3
    clear c3
    by_cases c4 : a0_1 = a1_1
    · rw [if_pos c4] at H
      have c4b0 : (a0_1 == a1_1) = true := beq_iff_eq.mpr c4
      have c4b1 : (a0_1 != a1_1) = false := bne_eq_false_iff_eq.mpr c4
      clear c4
      by_cases c5 : a0_2 = a1_2
      · rw [if_pos c5] at H
        have c5b0 : (a0_2 == a1_2) = true := beq_iff_eq.mpr c5
        have c5b1 : (a0_2 != a1_2) = false := bne_eq_false_iff_eq.mpr c5
        clear c5
        by_cases c6 : a0_3 = a1_3
        · rw [if_pos c6] at H
          have c6b0 : (a0_3 == a1_3) = true := beq_iff_eq.mpr c6
          have c6b1 : (a0_3 != a1_3) = false := bne_eq_false_iff_eq.mpr c6
          clear c6
          by_cases c7 : a0_4 = a1_4
          · rw [if_pos c7] at H
            have c7b0 : (a0_4 == a1_4) = true := beq_iff_eq.mpr c7
            have c7b1 : (a0_4 != a1_4) = false := bne_eq_false_iff_eq.mpr c7
            clear c7
            by_cases c8 : a0_5 = a1_5
            · rw [if_pos c8] at H
              have c8b0 : (a0_5 == a1_5) = true := beq_iff_eq.mpr c8
              have c8b1 : (a0_5 != a1_5) = false := bne_eq_false_iff_eq.mpr c8
              clear c8
              by_cases c9 : a0_6 = a1_6
              · rw [if_pos c9] at H
                have c9b0 : (a0_6 == a1_6) = true := beq_iff_eq.mpr c9
                have c9b1 : (a0_6 != a1_6) = false := bne_eq_false_iff_eq.mpr c9
                clear c9
                replace H := Option.bind_eq_some_iff.mp H
                obtain ⟨t111, A100, H⟩ := H
                replace H : (some t111) = some r := H
                have A10 := Aside0.mk A100
                clear A100
                obtain rfl := Option.some.inj H
                go_enter Tryd.func24, Tryd.ntmps24
                go_wp2_with (first | ((with_reducible refine gate_dst (N := 2) rfl ?_); refine box_event ?hg (N := 2) ?hd (cs := #[.int .i64 a0_0, .int .i64 a0_1, .int .i64 a0_2, .int .i64 a0_3, .int .i64 a0_4, .int .i64 a0_5, .int .i64 a0_6, .slice A0_7 l0_7.length c0_7]) (t := 24) ?hr ?_; (case hd => rfl); (case hg => rfl); (case hr => first | (go_simp; done) | (go_simp; rfl)); intro gb109 hg w11 hbox hb; have n0_ := Aside0.mk (below_step (by repeat (first | (with_reducible first | exact HB.out | apply below_alloc | apply pw_below_drewN | apply below_drew1) | exact HB.out)) hb); have n1_ := Aside0.mk (hbox); have n2_ := Aside0.mk ((by rw [hg]; exact (below_size (by repeat (first | (with_reducible first | exact HB.out | apply below_alloc | apply pw_below_drewN | apply below_drew1) | exact HB.out))) : w.heap.size ≤ gb109)); have n3_ := Aside0.mk ((by rw [hg]; exact (below_size (by repeat (first | (with_reducible first | exact HB.out | apply below_alloc | apply pw_below_drewN | apply below_drew1) | exact HB.out))) : w.heap.size ≤ gb109)); clear HB; have HB := n0_; have BK109 := n1_; have GW109 := n2_; have GE109 := n3_; clear n0_ n1_ n2_ n3_; clear hb hbox hg) | ((with_reducible refine gate_dst (N := 3) rfl ?_); refine box_event ?hg (N := 3) ?hd (cs := #[.int .i64 a1_0, .int .i64 a1_1, .int .i64 a1_2, .int .i64 a1_3, .int .i64 a1_4, .int .i64 a1_5, .int .i64 a1_6, .slice A1_7 l1_7.length c1_7]) (t := 24) ?hr ?_; (case hd => rfl); (case hg => rfl); (case hr => first | (go_simp; done) | (go_simp; rfl)); intro gb110 hg w12 hbox hb; have n0_ := Aside0.mk (blk_below (g := gb109) (o := .cells #[.int .i64 a0_0, .int .i64 a0_1, .int .i64 a0_2, .int .i64 a0_3, .int .i64 a0_4, .int .i64 a0_5, .int .i64 a0_6, .slice A0_7 l0_7.length c0_7] 24 (0, 0)) (by (with_reducible repeat (first | refine blk_drewN ?_ _ | refine blk_drew ?_ | refine blk_alloc ?_ _)); exact BK109.out) hb); have n1_ := Aside0.mk (below_step (by repeat (first | (with_reducible first | exact HB.out | apply below_alloc | apply pw_below_drewN | apply below_drew1 | refine below_set ?_ GE109.out) | exact HB.out)) hb); have n2_ := Aside0.mk (hbox); have n3_ := Aside0.mk ((by rw [hg]; exact (below_size (by repeat (first | (with_reducible first | exact HB.out | apply below_alloc | apply pw_below_drewN | apply below_drew1 | refine below_set ?_ GE109.out) | exact HB.out))) : w.heap.size ≤ gb110)); have n4_ := Aside0.mk ((by rw [hg]; exact (below_size (by repeat (first | (with_reducible first | exact HB.out | apply below_alloc | apply pw_below_drewN | apply below_drew1 | refine below_set ?_ GE109.out) | exact HB.out))) : w.heap.size ≤ gb110)); have n5_ := Aside0.mk ((by rw [hg]; exact Nat.ne_of_lt (blk_lt (g := gb109) (o := .cells #[.int .i64 a0_0, .int .i64 a0_1, .int .i64 a0_2, .int .i64 a0_3, .int .i64 a0_4, .int .i64 a0_5, .int .i64 a0_6, .slice A0_7 l0_7.length c0_7] 24 (0, 0)) (by (with_reducible repeat (first | refine blk_drewN ?_ _ | refine blk_drew ?_ | refine blk_alloc ?_ _)); exact BK109.out)) : gb109 ≠ gb110)); have n6_ := Aside0.mk ((by rw [hg]; exact Nat.ne_of_gt (blk_lt (g := gb109) (o := .cells #[.int .i64 a0_0, .int .i64 a0_1, .int .i64 a0_2, .int .i64 a0_3, .int .i64 a0_4, .int .i64 a0_5, .int .i64 a0_6, .slice A0_7 l0_7.length c0_7] 24 (0, 0)) (by (with_reducible repeat (first | refine blk_drewN ?_ _ | refine blk_drew ?_ | refine blk_alloc ?_ _)); exact BK109.out)) : gb110 ≠ gb109)); clear BK109; clear HB; have BK109 := n0_; have HB := n1_; have BK110 := n2_; have GW110 := n3_; have GE110 := n4_; have NB109_110 := n5_; have NB110_109 := n6_; clear n0_ n1_ n2_ n3_ n4_ n5_ n6_; clear hb hbox hg; have hnb13 := NB109_110.out; have hnc13 := NB110_109.out; have hcz14_0 : w12.cell? ⟨gb109, 0, none⟩ = some (.int .i64 a0_0) := (blk_cell BK109.out 0).trans rfl; have hcz14_1 : w12.cell? ⟨gb109, 1, none⟩ = some (.int .i64 a0_1) := (blk_cell BK109.out 1).trans rfl; have hcz14_2 : w12.cell? ⟨gb109, 2, none⟩ = some (.int .i64 a0_2) := (blk_cell BK109.out 2).trans rfl; have hcz14_3 : w12.cell? ⟨gb109, 3, none⟩ = some (.int .i64 a0_3) := (blk_cell BK109.out 3).trans rfl; have hcz14_4 : w12.cell? ⟨gb109, 4, none⟩ = some (.int .i64 a0_4) := (blk_cell BK109.out 4).trans rfl; have hcz14_5 : w12.cell? ⟨gb109, 5, none⟩ = some (.int .i64 a0_5) := (blk_cell BK109.out 5).trans rfl; have hcz14_6 : w12.cell? ⟨gb109, 6, none⟩ = some (.int .i64 a0_6) := (blk_cell BK109.out 6).trans rfl; have hcz14_7 : w12.cell? ⟨gb109, 7, none⟩ = some (.slice A0_7 l0_7.length c0_7) := (blk_cell BK109.out 7).trans rfl; have hfz14_0 := blk_frozen BK109.out 0; have hfz14_1 := blk_frozen BK109.out 1; have hfz14_2 := blk_frozen BK109.out 2; have hfz14_3 := blk_frozen BK109.out 3; have hfz14_4 := blk_frozen BK109.out 4; have hfz14_5 := blk_frozen BK109.out 5; have hfz14_6 := blk_frozen BK109.out 6; have hfz14_7 := blk_frozen BK109.out 7; have hcz15_0 : w12.cell? ⟨gb110, 0, none⟩ = some (.int .i64 a1_0) := (blk_cell BK110.out 0).trans rfl; have hcz15_1 : w12.cell? ⟨gb110, 1, none⟩ = some (.int .i64 a1_1) := (blk_cell BK110.out 1).trans rfl; have hcz15_2 : w12.cell? ⟨gb110, 2, none⟩ = some (.int .i64 a1_2) := (blk_cell BK110.out 2).trans rfl; have hcz15_3 : w12.cell? ⟨gb110, 3, none⟩ = some (.int .i64 a1_3) := (blk_cell BK110.out 3).trans rfl; have hcz15_4 : w12.cell? ⟨gb110, 4, none⟩ = some (.int .i64 a1_4) := (blk_cell BK110.out 4).trans rfl; have hcz15_5 : w12.cell? ⟨gb110, 5, none⟩ = some (.int .i64 a1_5) := (blk_cell BK110.out 5).trans rfl; have hcz15_6 : w12.cell? ⟨gb110, 6, none⟩ = some (.int .i64 a1_6) := (blk_cell BK110.out 6).trans rfl; have hcz15_7 : w12.cell? ⟨gb110, 7, none⟩ = some (.slice A1_7 l1_7.length c1_7) := (blk_cell BK110.out 7).trans rfl; have hfz15_0 := blk_frozen BK110.out 0; have hfz15_1 := blk_frozen BK110.out 1; have hfz15_2 := blk_frozen BK110.out 2; have hfz15_3 := blk_frozen BK110.out 3; have hfz15_4 := blk_frozen BK110.out 4; have hfz15_5 := blk_frozen BK110.out 5; have hfz15_6 := blk_frozen BK110.out 6; have hfz15_7 := blk_frozen BK110.out 7) | (go_at_call 42; (with_reducible refine (slices_Equal_int_int.calls k _ _ l0_7 _ _ l1_7 t111 _ ?side1 ?side2 ?side3 ?side4 A10.out).mono ?_); (case side1 => repeat (first | exact (Kd.C_below HR0_7.out HB.out) | (with_reducible refine Kd.C_alloc ?_ _) | (with_reducible refine Kd.C_drewN ?_ _) | (with_reducible refine Kd.C_drew ?_))); (case side2 => exact HC0_7.out); (case side3 => repeat (first | exact (Kd.C_below HR1_7.out HB.out) | (with_reducible refine Kd.C_alloc ?_ _) | (with_reducible refine Kd.C_drewN ?_ _) | (with_reducible refine Kd.C_drew ?_))); (case side4 => exact HC1_7.out); rintro e w' ⟨rfl, ⟨nd, rfl⟩⟩))
                go_ret
                exact ⟨by first | rfl | (simp [errW_none, errW_some] <;> rfl) | (simp [*, errW_none, errW_some] <;> rfl), by repeat (first | (with_reducible first | exact HB.out | apply below_alloc | apply pw_below_drewN | apply below_drew1 | refine below_set ?_ GE109.out | refine below_set ?_ GE110.out) | exact HB.out)⟩
              · rw [if_neg c9] at H
                have c9b0 : (a0_6 == a1_6) = false := beq_eq_false_iff_ne.mpr c9
                have c9b1 : (a0_6 != a1_6) = true := bne_iff_ne.mpr c9
                obtain rfl := Option.some.inj H
                go_enter Tryd.func24, Tryd.ntmps24
                go_wp2_with (first | ((with_reducible refine gate_dst (N := 2) rfl ?_); refine box_event ?hg (N := 2) ?hd (cs := #[.int .i64 a0_0, .int .i64 a0_1, .int .i64 a0_2, .int .i64 a0_3, .int .i64 a0_4, .int .i64 a0_5, .int .i64 a0_6, .slice A0_7 l0_7.length c0_7]) (t := 24) ?hr ?_; (case hd => rfl); (case hg => rfl); (case hr => first | (go_simp; done) | (go_simp; rfl)); intro gb109 hg w16 hbox hb; have n0_ := Aside0.mk (below_step (by repeat (first | (with_reducible first | exact HB.out | apply below_alloc | apply pw_below_drewN | apply below_drew1) | exact HB.out)) hb); have n1_ := Aside0.mk (hbox); have n2_ := Aside0.mk ((by rw [hg]; exact (below_size (by repeat (first | (with_reducible first | exact HB.out | apply below_alloc | apply pw_below_drewN | apply below_drew1) | exact HB.out))) : w.heap.size ≤ gb109)); have n3_ := Aside0.mk ((by rw [hg]; exact (below_size (by repeat (first | (with_reducible first | exact HB.out | apply below_alloc | apply pw_below_drewN | apply below_drew1) | exact HB.out))) : w.heap.size ≤ gb109)); clear HB; have HB := n0_; have BK109 := n1_; have GW109 := n2_; have GE109 := n3_; clear n0_ n1_ n2_ n3_; clear hb hbox hg) | ((with_reducible refine gate_dst (N := 3) rfl ?_); refine box_event ?hg (N := 3) ?hd (cs := #[.int .i64 a1_0, .int .i64 a1_1, .int .i64 a1_2, .int .i64 a1_3, .int .i64 a1_4, .int .i64 a1_5, .int .i64 a1_6, .slice A1_7 l1_7.length c1_7]) (t := 24) ?hr ?_; (case hd => rfl); (case hg => rfl); (case hr => first | (go_simp; done) | (go_simp; rfl)); intro gb110 hg w17 hbox hb; have n0_ := Aside0.mk (blk_below (g := gb109) (o := .cells #[.int .i64 a0_0, .int .i64 a0_1, .int .i64 a0_2, .int .i64 a0_3, .int .i64 a0_4, .int .i64 a0_5, .int .i64 a0_6, .slice A0_7 l0_7.length c0_7] 24 (0, 0)) (by (with_reducible repeat (first | refine blk_drewN ?_ _ | refine blk_drew ?_ | refine blk_alloc ?_ _)); exact BK109.out) hb); have n1_ := Aside0.mk (below_step (by repeat (first | (with_reducible first | exact HB.out | apply below_alloc | apply pw_below_drewN | apply below_drew1 | refine below_set ?_ GE109.out) | exact HB.out)) hb); have n2_ := Aside0.mk (hbox); have n3_ := Aside0.mk ((by rw [hg]; exact (below_size (by repeat (first | (with_reducible first | exact HB.out | apply below_alloc | apply pw_below_drewN | apply below_drew1 | refine below_set ?_ GE109.out) | exact HB.out))) : w.heap.size ≤ gb110)); have n4_ := Aside0.mk ((by rw [hg]; exact (below_size (by repeat (first | (with_reducible first | exact HB.out | apply below_alloc | apply pw_below_drewN | apply below_drew1 | refine below_set ?_ GE109.out) | exact HB.out))) : w.heap.size ≤ gb110)); have n5_ := Aside0.mk ((by rw [hg]; exact Nat.ne_of_lt (blk_lt (g := gb109) (o := .cells #[.int .i64 a0_0, .int .i64 a0_1, .int .i64 a0_2, .int .i64 a0_3, .int .i64 a0_4, .int .i64 a0_5, .int .i64 a0_6, .slice A0_7 l0_7.length c0_7] 24 (0, 0)) (by (with_reducible repeat (first | refine blk_drewN ?_ _ | refine blk_drew ?_ | refine blk_alloc ?_ _)); exact BK109.out)) : gb109 ≠ gb110)); have n6_ := Aside0.mk ((by rw [hg]; exact Nat.ne_of_gt (blk_lt (g := gb109) (o := .cells #[.int .i64 a0_0, .int .i64 a0_1, .int .i64 a0_2, .int .i64 a0_3, .int .i64 a0_4, .int .i64 a0_5, .int .i64 a0_6, .slice A0_7 l0_7.length c0_7] 24 (0, 0)) (by (with_reducible repeat (first | refine blk_drewN ?_ _ | refine blk_drew ?_ | refine blk_alloc ?_ _)); exact BK109.out)) : gb110 ≠ gb109)); clear BK109; clear HB; have BK109 := n0_; have HB := n1_; have BK110 := n2_; have GW110 := n3_; have GE110 := n4_; have NB109_110 := n5_; have NB110_109 := n6_; clear n0_ n1_ n2_ n3_ n4_ n5_ n6_; clear hb hbox hg; have hnb18 := NB109_110.out; have hnc18 := NB110_109.out; have hcz19_0 : w17.cell? ⟨gb109, 0, none⟩ = some (.int .i64 a0_0) := (blk_cell BK109.out 0).trans rfl; have hcz19_1 : w17.cell? ⟨gb109, 1, none⟩ = some (.int .i64 a0_1) := (blk_cell BK109.out 1).trans rfl; have hcz19_2 : w17.cell? ⟨gb109, 2, none⟩ = some (.int .i64 a0_2) := (blk_cell BK109.out 2).trans rfl; have hcz19_3 : w17.cell? ⟨gb109, 3, none⟩ = some (.int .i64 a0_3) := (blk_cell BK109.out 3).trans rfl; have hcz19_4 : w17.cell? ⟨gb109, 4, none⟩ = some (.int .i64 a0_4) := (blk_cell BK109.out 4).trans rfl; have hcz19_5 : w17.cell? ⟨gb109, 5, none⟩ = some (.int .i64 a0_5) := (blk_cell BK109.out 5).trans rfl; have hcz19_6 : w17.cell? ⟨gb109, 6, none⟩ = some (.int .i64 a0_6) := (blk_cell BK109.out 6).trans rfl; have hcz19_7 : w17.cell? ⟨gb109, 7, none⟩ = some (.slice A0_7 l0_7.length c0_7) := (blk_cell BK109.out 7).trans rfl; have hfz19_0 := blk_frozen BK109.out 0; have hfz19_1 := blk_frozen BK109.out 1; have hfz19_2 := blk_frozen BK109.out 2; have hfz19_3 := blk_frozen BK109.out 3; have hfz19_4 := blk_frozen BK109.out 4; have hfz19_5 := blk_frozen BK109.out 5; have hfz19_6 := blk_frozen BK109.out 6; have hfz19_7 := blk_frozen BK109.out 7; have hcz20_0 : w17.cell? ⟨gb110, 0, none⟩ = some (.int .i64 a1_0) := (blk_cell BK110.out 0).trans rfl; have hcz20_1 : w17.cell? ⟨gb110, 1, none⟩ = some (.int .i64 a1_1) := (blk_cell BK110.out 1).trans rfl; have hcz20_2 : w17.cell? ⟨gb110, 2, none⟩ = some (.int .i64 a1_2) := (blk_cell BK110.out 2).trans rfl; have hcz20_3 : w17.cell? ⟨gb110, 3, none⟩ = some (.int .i64 a1_3) := (blk_cell BK110.out 3).trans rfl; have hcz20_4 : w17.cell? ⟨gb110, 4, none⟩ = some (.int .i64 a1_4) := (blk_cell BK110.out 4).trans rfl; have hcz20_5 : w17.cell? ⟨gb110, 5, none⟩ = some (.int .i64 a1_5) := (blk_cell BK110.out 5).trans rfl; have hcz20_6 : w17.cell? ⟨gb110, 6, none⟩ = some (.int .i64 a1_6) := (blk_cell BK110.out 6).trans rfl; have hcz20_7 : w17.cell? ⟨gb110, 7, none⟩ = some (.slice A1_7 l1_7.length c1_7) := (blk_cell BK110.out 7).trans rfl; have hfz20_0 := blk_frozen BK110.out 0; have hfz20_1 := blk_frozen BK110.out 1; have hfz20_2 := blk_frozen BK110.out 2; have hfz20_3 := blk_frozen BK110.out 3; have hfz20_4 := blk_frozen BK110.out 4; have hfz20_5 := blk_frozen BK110.out 5; have hfz20_6 := blk_frozen BK110.out 6; have hfz20_7 := blk_frozen BK110.out 7))
                go_ret
                exact ⟨by first | rfl | (simp [errW_none, errW_some] <;> rfl) | (simp [*, errW_none, errW_some] <;> rfl), by repeat (first | (with_reducible first | exact HB.out | apply below_alloc | apply pw_below_drewN | apply below_drew1 | refine below_set ?_ GE109.out | refine below_set ?_ GE110.out) | exact HB.out)⟩
            · rw [if_neg c8] at H
              have c8b0 : (a0_5 == a1_5) = false := beq_eq_false_iff_ne.mpr c8
              have c8b1 : (a0_5 != a1_5) = true := bne_iff_ne.mpr c8
              obtain rfl := Option.some.inj H
              go_enter Tryd.func24, Tryd.ntmps24
              go_wp2_with (first | ((with_reducible refine gate_dst (N := 2) rfl ?_); refine box_event ?hg (N := 2) ?hd (cs := #[.int .i64 a0_0, .int .i64 a0_1, .int .i64 a0_2, .int .i64 a0_3, .int .i64 a0_4, .int .i64 a0_5, .int .i64 a0_6, .slice A0_7 l0_7.length c0_7]) (t := 24) ?hr ?_; (case hd => rfl); (case hg => rfl); (case hr => first | (go_simp; done) | (go_simp; rfl)); intro gb109 hg w21 hbox hb; have n0_ := Aside0.mk (below_step (by repeat (first | (with_reducible first | exact HB.out | apply below_alloc | apply pw_below_drewN | apply below_drew1) | exact HB.out)) hb); have n1_ := Aside0.mk (hbox); have n2_ := Aside0.mk ((by rw [hg]; exact (below_size (by repeat (first | (with_reducible first | exact HB.out | apply below_alloc | apply pw_below_drewN | apply below_drew1) | exact HB.out))) : w.heap.size ≤ gb109)); have n3_ := Aside0.mk ((by rw [hg]; exact (below_size (by repeat (first | (with_reducible first | exact HB.out | apply below_alloc | apply pw_below_drewN | apply below_drew1) | exact HB.out))) : w.heap.size ≤ gb109)); clear HB; have HB := n0_; have BK109 := n1_; have GW109 := n2_; have GE109 := n3_; clear n0_ n1_ n2_ n3_; clear hb hbox hg) | ((with_reducible refine gate_dst (N := 3) rfl ?_); refine box_event ?hg (N := 3) ?hd (cs := #[.int .i64 a1_0, .int .i64 a1_1, .int .i64 a1_2, .int .i64 a1_3, .int .i64 a1_4, .int .i64 a1_5, .int .i64 a1_6, .slice A1_7 l1_7.length c1_7]) (t := 24) ?hr ?_; (case hd => rfl); (case hg => rfl); (case hr => first | (go_simp; done) | (go_simp; rfl)); intro gb110 hg w22 hbox hb; have n0_ := Aside0.mk (blk_below (g := gb109) (o := .cells #[.int .i64 a0_0, .int .i64 a0_1, .int .i64 a0_2, .int .i64 a0_3, .int .i64 a0_4, .int .i64 a0_5, .int .i64 a0_6, .slice A0_7 l0_7.length c0_7] 24 (0, 0)) (by (with_reducible repeat (first | refine blk_drewN ?_ _ | refine blk_drew ?_ | refine blk_alloc ?_ _)); exact BK109.out) hb); have n1_ := Aside0.mk (below_step (by repeat (first | (with_reducible first | exact HB.out | apply below_alloc | apply pw_below_drewN | apply below_drew1 | refine below_set ?_ GE109.out) | exact HB.out)) hb); have n2_ := Aside0.mk (hbox); have n3_ := Aside0.mk ((by rw [hg]; exact (below_size (by repeat (first | (with_reducible first | exact HB.out | apply below_alloc | apply pw_below_drewN | apply below_drew1 | refine below_set ?_ GE109.out) | exact HB.out))) : w.heap.size ≤ gb110)); have n4_ := Aside0.mk ((by rw [hg]; exact (below_size (by repeat (first | (with_reducible first | exact HB.out | apply below_alloc | apply pw_below_drewN | apply below_drew1 | refine below_set ?_ GE109.out) | exact HB.out))) : w.heap.size ≤ gb110)); have n5_ := Aside0.mk ((by rw [hg]; exact Nat.ne_of_lt (blk_lt (g := gb109) (o := .cells #[.int .i64 a0_0, .int .i64 a0_1, .int .i64 a0_2, .int .i64 a0_3, .int .i64 a0_4, .int .i64 a0_5, .int .i64 a0_6, .slice A0_7 l0_7.length c0_7] 24 (0, 0)) (by (with_reducible repeat (first | refine blk_drewN ?_ _ | refine blk_drew ?_ | refine blk_alloc ?_ _)); exact BK109.out)) : gb109 ≠ gb110)); have n6_ := Aside0.mk ((by rw [hg]; exact Nat.ne_of_gt (blk_lt (g := gb109) (o := .cells #[.int .i64 a0_0, .int .i64 a0_1, .int .i64 a0_2, .int .i64 a0_3, .int .i64 a0_4, .int .i64 a0_5, .int .i64 a0_6, .slice A0_7 l0_7.length c0_7] 24 (0, 0)) (by (with_reducible repeat (first | refine blk_drewN ?_ _ | refine blk_drew ?_ | refine blk_alloc ?_ _)); exact BK109.out)) : gb110 ≠ gb109)); clear BK109; clear HB; have BK109 := n0_; have HB := n1_; have BK110 := n2_; have GW110 := n3_; have GE110 := n4_; have NB109_110 := n5_; have NB110_109 := n6_; clear n0_ n1_ n2_ n3_ n4_ n5_ n6_; clear hb hbox hg; have hnb23 := NB109_110.out; have hnc23 := NB110_109.out; have hcz24_0 : w22.cell? ⟨gb109, 0, none⟩ = some (.int .i64 a0_0) := (blk_cell BK109.out 0).trans rfl; have hcz24_1 : w22.cell? ⟨gb109, 1, none⟩ = some (.int .i64 a0_1) := (blk_cell BK109.out 1).trans rfl; have hcz24_2 : w22.cell? ⟨gb109, 2, none⟩ = some (.int .i64 a0_2) := (blk_cell BK109.out 2).trans rfl; have hcz24_3 : w22.cell? ⟨gb109, 3, none⟩ = some (.int .i64 a0_3) := (blk_cell BK109.out 3).trans rfl; have hcz24_4 : w22.cell? ⟨gb109, 4, none⟩ = some (.int .i64 a0_4) := (blk_cell BK109.out 4).trans rfl; have hcz24_5 : w22.cell? ⟨gb109, 5, none⟩ = some (.int .i64 a0_5) := (blk_cell BK109.out 5).trans rfl; have hcz24_6 : w22.cell? ⟨gb109, 6, none⟩ = some (.int .i64 a0_6) := (blk_cell BK109.out 6).trans rfl; have hcz24_7 : w22.cell? ⟨gb109, 7, none⟩ = some (.slice A0_7 l0_7.length c0_7) := (blk_cell BK109.out 7).trans rfl; have hfz24_0 := blk_frozen BK109.out 0; have hfz24_1 := blk_frozen BK109.out 1; have hfz24_2 := blk_frozen BK109.out 2; have hfz24_3 := blk_frozen BK109.out 3; have hfz24_4 := blk_frozen BK109.out 4; have hfz24_5 := blk_frozen BK109.out 5; have hfz24_6 := blk_frozen BK109.out 6; have hfz24_7 := blk_frozen BK109.out 7; have hcz25_0 : w22.cell? ⟨gb110, 0, none⟩ = some (.int .i64 a1_0) := (blk_cell BK110.out 0).trans rfl; have hcz25_1 : w22.cell? ⟨gb110, 1, none⟩ = some (.int .i64 a1_1) := (blk_cell BK110.out 1).trans rfl; have hcz25_2 : w22.cell? ⟨gb110, 2, none⟩ = some (.int .i64 a1_2) := (blk_cell BK110.out 2).trans rfl; have hcz25_3 : w22.cell? ⟨gb110, 3, none⟩ = some (.int .i64 a1_3) := (blk_cell BK110.out 3).trans rfl; have hcz25_4 : w22.cell? ⟨gb110, 4, none⟩ = some (.int .i64 a1_4) := (blk_cell BK110.out 4).trans rfl; have hcz25_5 : w22.cell? ⟨gb110, 5, none⟩ = some (.int .i64 a1_5) := (blk_cell BK110.out 5).trans rfl; have hcz25_6 : w22.cell? ⟨gb110, 6, none⟩ = some (.int .i64 a1_6) := (blk_cell BK110.out 6).trans rfl; have hcz25_7 : w22.cell? ⟨gb110, 7, none⟩ = some (.slice A1_7 l1_7.length c1_7) := (blk_cell BK110.out 7).trans rfl; have hfz25_0 := blk_frozen BK110.out 0; have hfz25_1 := blk_frozen BK110.out 1; have hfz25_2 := blk_frozen BK110.out 2; have hfz25_3 := blk_frozen BK110.out 3; have hfz25_4 := blk_frozen BK110.out 4; have hfz25_5 := blk_frozen BK110.out 5; have hfz25_6 := blk_frozen BK110.out 6; have hfz25_7 := blk_frozen BK110.out 7))
              go_ret
              exact ⟨by first | rfl | (simp [errW_none, errW_some] <;> rfl) | (simp [*, errW_none, errW_some] <;> rfl), by repeat (first | (with_reducible first | exact HB.out | apply below_alloc | apply pw_below_drewN | apply below_drew1 | refine below_set ?_ GE109.out | refine below_set ?_ GE110.out) | exact HB.out)⟩
          · rw [if_neg c7] at H
            have c7b0 : (a0_4 == a1_4) = false := beq_eq_false_iff_ne.mpr c7
            have c7b1 : (a0_4 != a1_4) = true := bne_iff_ne.mpr c7
            obtain rfl := Option.some.inj H
            go_enter Tryd.func24, Tryd.ntmps24
            go_wp2_with (first | ((with_reducible refine gate_dst (N := 2) rfl ?_); refine box_event ?hg (N := 2) ?hd (cs := #[.int .i64 a0_0, .int .i64 a0_1, .int .i64 a0_2, .int .i64 a0_3, .int .i64 a0_4, .int .i64 a0_5, .int .i64 a0_6, .slice A0_7 l0_7.length c0_7]) (t := 24) ?hr ?_; (case hd => rfl); (case hg => rfl); (case hr => first | (go_simp; done) | (go_simp; rfl)); intro gb109 hg w26 hbox hb; have n0_ := Aside0.mk (below_step (by repeat (first | (with_reducible first | exact HB.out | apply below_alloc | apply pw_below_drewN | apply below_drew1) | exact HB.out)) hb); have n1_ := Aside0.mk (hbox); have n2_ := Aside0.mk ((by rw [hg]; exact (below_size (by repeat (first | (with_reducible first | exact HB.out | apply below_alloc | apply pw_below_drewN | apply below_drew1) | exact HB.out))) : w.heap.size ≤ gb109)); have n3_ := Aside0.mk ((by rw [hg]; exact (below_size (by repeat (first | (with_reducible first | exact HB.out | apply below_alloc | apply pw_below_drewN | apply below_drew1) | exact HB.out))) : w.heap.size ≤ gb109)); clear HB; have HB := n0_; have BK109 := n1_; have GW109 := n2_; have GE109 := n3_; clear n0_ n1_ n2_ n3_; clear hb hbox hg) | ((with_reducible refine gate_dst (N := 3) rfl ?_); refine box_event ?hg (N := 3) ?hd (cs := #[.int .i64 a1_0, .int .i64 a1_1, .int .i64 a1_2, .int .i64 a1_3, .int .i64 a1_4, .int .i64 a1_5, .int .i64 a1_6, .slice A1_7 l1_7.length c1_7]) (t := 24) ?hr ?_; (case hd => rfl); (case hg => rfl); (case hr => first | (go_simp; done) | (go_simp; rfl)); intro gb110 hg w27 hbox hb; have n0_ := Aside0.mk (blk_below (g := gb109) (o := .cells #[.int .i64 a0_0, .int .i64 a0_1, .int .i64 a0_2, .int .i64 a0_3, .int .i64 a0_4, .int .i64 a0_5, .int .i64 a0_6, .slice A0_7 l0_7.length c0_7] 24 (0, 0)) (by (with_reducible repeat (first | refine blk_drewN ?_ _ | refine blk_drew ?_ | refine blk_alloc ?_ _)); exact BK109.out) hb); have n1_ := Aside0.mk (below_step (by repeat (first | (with_reducible first | exact HB.out | apply below_alloc | apply pw_below_drewN | apply below_drew1 | refine below_set ?_ GE109.out) | exact HB.out)) hb); have n2_ := Aside0.mk (hbox); have n3_ := Aside0.mk ((by rw [hg]; exact (below_size (by repeat (first | (with_reducible first | exact HB.out | apply below_alloc | apply pw_below_drewN | apply below_drew1 | refine below_set ?_ GE109.out) | exact HB.out))) : w.heap.size ≤ gb110)); have n4_ := Aside0.mk ((by rw [hg]; exact (below_size (by repeat (first | (with_reducible first | exact HB.out | apply below_alloc | apply pw_below_drewN | apply below_drew1 | refine below_set ?_ GE109.out) | exact HB.out))) : w.heap.size ≤ gb110)); have n5_ := Aside0.mk ((by rw [hg]; exact Nat.ne_of_lt (blk_lt (g := gb109) (o := .cells #[.int .i64 a0_0, .int .i64 a0_1, .int .i64 a0_2, .int .i64 a0_3, .int .i64 a0_4, .int .i64 a0_5, .int .i64 a0_6, .slice A0_7 l0_7.length c0_7] 24 (0, 0)) (by (with_reducible repeat (first | refine blk_drewN ?_ _ | refine blk_drew ?_ | refine blk_alloc ?_ _)); exact BK109.out)) : gb109 ≠ gb110)); have n6_ := Aside0.mk ((by rw [hg]; exact Nat.ne_of_gt (blk_lt (g := gb109) (o := .cells #[.int .i64 a0_0, .int .i64 a0_1, .int .i64 a0_2, .int .i64 a0_3, .int .i64 a0_4, .int .i64 a0_5, .int .i64 a0_6, .slice A0_7 l0_7.length c0_7] 24 (0, 0)) (by (with_reducible repeat (first | refine blk_drewN ?_ _ | refine blk_drew ?_ | refine blk_alloc ?_ _)); exact BK109.out)) : gb110 ≠ gb109)); clear BK109; clear HB; have BK109 := n0_; have HB := n1_; have BK110 := n2_; have GW110 := n3_; have GE110 := n4_; have NB109_110 := n5_; have NB110_109 := n6_; clear n0_ n1_ n2_ n3_ n4_ n5_ n6_; clear hb hbox hg; have hnb28 := NB109_110.out; have hnc28 := NB110_109.out; have hcz29_0 : w27.cell? ⟨gb109, 0, none⟩ = some (.int .i64 a0_0) := (blk_cell BK109.out 0).trans rfl; have hcz29_1 : w27.cell? ⟨gb109, 1, none⟩ = some (.int .i64 a0_1) := (blk_cell BK109.out 1).trans rfl; have hcz29_2 : w27.cell? ⟨gb109, 2, none⟩ = some (.int .i64 a0_2) := (blk_cell BK109.out 2).trans rfl; have hcz29_3 : w27.cell? ⟨gb109, 3, none⟩ = some (.int .i64 a0_3) := (blk_cell BK109.out 3).trans rfl; have hcz29_4 : w27.cell? ⟨gb109, 4, none⟩ = some (.int .i64 a0_4) := (blk_cell BK109.out 4).trans rfl; have hcz29_5 : w27.cell? ⟨gb109, 5, none⟩ = some (.int .i64 a0_5) := (blk_cell BK109.out 5).trans rfl; have hcz29_6 : w27.cell? ⟨gb109, 6, none⟩ = some (.int .i64 a0_6) := (blk_cell BK109.out 6).trans rfl; have hcz29_7 : w27.cell? ⟨gb109, 7, none⟩ = some (.slice A0_7 l0_7.length c0_7) := (blk_cell BK109.out 7).trans rfl; have hfz29_0 := blk_frozen BK109.out 0; have hfz29_1 := blk_frozen BK109.out 1; have hfz29_2 := blk_frozen BK109.out 2; have hfz29_3 := blk_frozen BK109.out 3; have hfz29_4 := blk_frozen BK109.out 4; have hfz29_5 := blk_frozen BK109.out 5; have hfz29_6 := blk_frozen BK109.out 6; have hfz29_7 := blk_frozen BK109.out 7; have hcz30_0 : w27.cell? ⟨gb110, 0, none⟩ = some (.int .i64 a1_0) := (blk_cell BK110.out 0).trans rfl; have hcz30_1 : w27.cell? ⟨gb110, 1, none⟩ = some (.int .i64 a1_1) := (blk_cell BK110.out 1).trans rfl; have hcz30_2 : w27.cell? ⟨gb110, 2, none⟩ = some (.int .i64 a1_2) := (blk_cell BK110.out 2).trans rfl; have hcz30_3 : w27.cell? ⟨gb110, 3, none⟩ = some (.int .i64 a1_3) := (blk_cell BK110.out 3).trans rfl; have hcz30_4 : w27.cell? ⟨gb110, 4, none⟩ = some (.int .i64 a1_4) := (blk_cell BK110.out 4).trans rfl; have hcz30_5 : w27.cell? ⟨gb110, 5, none⟩ = some (.int .i64 a1_5) := (blk_cell BK110.out 5).trans rfl; have hcz30_6 : w27.cell? ⟨gb110, 6, none⟩ = some (.int .i64 a1_6) := (blk_cell BK110.out 6).trans rfl; have hcz30_7 : w27.cell? ⟨gb110, 7, none⟩ = some (.slice A1_7 l1_7.length c1_7) := (blk_cell BK110.out 7).trans rfl; have hfz30_0 := blk_frozen BK110.out 0; have hfz30_1 := blk_frozen BK110.out 1; have hfz30_2 := blk_frozen BK110.out 2; have hfz30_3 := blk_frozen BK110.out 3; have hfz30_4 := blk_frozen BK110.out 4; have hfz30_5 := blk_frozen BK110.out 5; have hfz30_6 := blk_frozen BK110.out 6; have hfz30_7 := blk_frozen BK110.out 7))
            go_ret
            exact ⟨by first | rfl | (simp [errW_none, errW_some] <;> rfl) | (simp [*, errW_none, errW_some] <;> rfl), by repeat (first | (with_reducible first | exact HB.out | apply below_alloc | apply pw_below_drewN | apply below_drew1 | refine below_set ?_ GE109.out | refine below_set ?_ GE110.out) | exact HB.out)⟩
        · rw [if_neg c6] at H
          have c6b0 : (a0_3 == a1_3) = false := beq_eq_false_iff_ne.mpr c6
          have c6b1 : (a0_3 != a1_3) = true := bne_iff_ne.mpr c6
          obtain rfl := Option.some.inj H
          go_enter Tryd.func24, Tryd.ntmps24
          go_wp2_with (first | ((with_reducible refine gate_dst (N := 2) rfl ?_); refine box_event ?hg (N := 2) ?hd (cs := #[.int .i64 a0_0, .int .i64 a0_1, .int .i64 a0_2, .int .i64 a0_3, .int .i64 a0_4, .int .i64 a0_5, .int .i64 a0_6, .slice A0_7 l0_7.length c0_7]) (t := 24) ?hr ?_; (case hd => rfl); (case hg => rfl); (case hr => first | (go_simp; done) | (go_simp; rfl)); intro gb109 hg w31 hbox hb; have n0_ := Aside0.mk (below_step (by repeat (first | (with_reducible first | exact HB.out | apply below_alloc | apply pw_below_drewN | apply below_drew1) | exact HB.out)) hb); have n1_ := Aside0.mk (hbox); have n2_ := Aside0.mk ((by rw [hg]; exact (below_size (by repeat (first | (with_reducible first | exact HB.out | apply below_alloc | apply pw_below_drewN | apply below_drew1) | exact HB.out))) : w.heap.size ≤ gb109)); have n3_ := Aside0.mk ((by rw [hg]; exact (below_size (by repeat (first | (with_reducible first | exact HB.out | apply below_alloc | apply pw_below_drewN | apply below_drew1) | exact HB.out))) : w.heap.size ≤ gb109)); clear HB; have HB := n0_; have BK109 := n1_; have GW109 := n2_; have GE109 := n3_; clear n0_ n1_ n2_ n3_; clear hb hbox hg) | ((with_reducible refine gate_dst (N := 3) rfl ?_); refine box_event ?hg (N := 3) ?hd (cs := #[.int .i64 a1_0, .int .i64 a1_1, .int .i64 a1_2, .int .i64 a1_3, .int .i64 a1_4, .int .i64 a1_5, .int .i64 a1_6, .slice A1_7 l1_7.length c1_7]) (t := 24) ?hr ?_; (case hd => rfl); (case hg => rfl); (case hr => first | (go_simp; done) | (go_simp; rfl)); intro gb110 hg w32 hbox hb; have n0_ := Aside0.mk (blk_below (g := gb109) (o := .cells #[.int .i64 a0_0, .int .i64 a0_1, .int .i64 a0_2, .int .i64 a0_3, .int .i64 a0_4, .int .i64 a0_5, .int .i64 a0_6, .slice A0_7 l0_7.length c0_7] 24 (0, 0)) (by (with_reducible repeat (first | refine blk_drewN ?_ _ | refine blk_drew ?_ | refine blk_alloc ?_ _)); exact BK109.out) hb); have n1_ := Aside0.mk (below_step (by repeat (first | (with_reducible first | exact HB.out | apply below_alloc | apply pw_below_drewN | apply below_drew1 | refine below_set ?_ GE109.out) | exact HB.out)) hb); have n2_ := Aside0.mk (hbox); have n3_ := Aside0.mk ((by rw [hg]; exact (below_size (by repeat (first | (with_reducible first | exact HB.out | apply below_alloc | apply pw_below_drewN | apply below_drew1 | refine below_set ?_ GE109.out) | exact HB.out))) : w.heap.size ≤ gb110)); have n4_ := Aside0.mk ((by rw [hg]; exact (below_size (by repeat (first | (with_reducible first | exact HB.out | apply below_alloc | apply pw_below_drewN | apply below_drew1 | refine below_set ?_ GE109.out) | exact HB.out))) : w.heap.size ≤ gb110)); have n5_ := Aside0.mk ((by rw [hg]; exact Nat.ne_of_lt (blk_lt (g := gb109) (o := .cells #[.int .i64 a0_0, .int .i64 a0_1, .int .i64 a0_2, .int .i64 a0_3, .int .i64 a0_4, .int .i64 a0_5, .int .i64 a0_6, .slice A0_7 l0_7.length c0_7] 24 (0, 0)) (by (with_reducible repeat (first | refine blk_drewN ?_ _ | refine blk_drew ?_ | refine blk_alloc ?_ _)); exact BK109.out)) : gb109 ≠ gb110)); have n6_ := Aside0.mk ((by rw [hg]; exact Nat.ne_of_gt (blk_lt (g := gb109) (o := .cells #[.int .i64 a0_0, .int .i64 a0_1, .int .i64 a0_2, .int .i64 a0_3, .int .i64 a0_4, .int .i64 a0_5, .int .i64 a0_6, .slice A0_7 l0_7.length c0_7] 24 (0, 0)) (by (with_reducible repeat (first | refine blk_drewN ?_ _ | refine blk_drew ?_ | refine blk_alloc ?_ _)); exact BK109.out)) : gb110 ≠ gb109)); clear BK109; clear HB; have BK109 := n0_; have HB := n1_; have BK110 := n2_; have GW110 := n3_; have GE110 := n4_; have NB109_110 := n5_; have NB110_109 := n6_; clear n0_ n1_ n2_ n3_ n4_ n5_ n6_; clear hb hbox hg; have hnb33 := NB109_110.out; have hnc33 := NB110_109.out; have hcz34_0 : w32.cell? ⟨gb109, 0, none⟩ = some (.int .i64 a0_0) := (blk_cell BK109.out 0).trans rfl; have hcz34_1 : w32.cell? ⟨gb109, 1, none⟩ = some (.int .i64 a0_1) := (blk_cell BK109.out 1).trans rfl; have hcz34_2 : w32.cell? ⟨gb109, 2, none⟩ = some (.int .i64 a0_2) := (blk_cell BK109.out 2).trans rfl; have hcz34_3 : w32.cell? ⟨gb109, 3, none⟩ = some (.int .i64 a0_3) := (blk_cell BK109.out 3).trans rfl; have hcz34_4 : w32.cell? ⟨gb109, 4, none⟩ = some (.int .i64 a0_4) := (blk_cell BK109.out 4).trans rfl; have hcz34_5 : w32.cell? ⟨gb109, 5, none⟩ = some (.int .i64 a0_5) := (blk_cell BK109.out 5).trans rfl; have hcz34_6 : w32.cell? ⟨gb109, 6, none⟩ = some (.int .i64 a0_6) := (blk_cell BK109.out 6).trans rfl; have hcz34_7 : w32.cell? ⟨gb109, 7, none⟩ = some (.slice A0_7 l0_7.length c0_7) := (blk_cell BK109.out 7).trans rfl; have hfz34_0 := blk_frozen BK109.out 0; have hfz34_1 := blk_frozen BK109.out 1; have hfz34_2 := blk_frozen BK109.out 2; have hfz34_3 := blk_frozen BK109.out 3; have hfz34_4 := blk_frozen BK109.out 4; have hfz34_5 := blk_frozen BK109.out 5; have hfz34_6 := blk_frozen BK109.out 6; have hfz34_7 := blk_frozen BK109.out 7; have hcz35_0 : w32.cell? ⟨gb110, 0, none⟩ = some (.int .i64 a1_0) := (blk_cell BK110.out 0).trans rfl; have hcz35_1 : w32.cell? ⟨gb110, 1, none⟩ = some (.int .i64 a1_1) := (blk_cell BK110.out 1).trans rfl; have hcz35_2 : w32.cell? ⟨gb110, 2, none⟩ = some (.int .i64 a1_2) := (blk_cell BK110.out 2).trans rfl; have hcz35_3 : w32.cell? ⟨gb110, 3, none⟩ = some (.int .i64 a1_3) := (blk_cell BK110.out 3).trans rfl; have hcz35_4 : w32.cell? ⟨gb110, 4, none⟩ = some (.int .i64 a1_4) := (blk_cell BK110.out 4).trans rfl; have hcz35_5 : w32.cell? ⟨gb110, 5, none⟩ = some (.int .i64 a1_5) := (blk_cell BK110.out 5).trans rfl; have hcz35_6 : w32.cell? ⟨gb110, 6, none⟩ = some (.int .i64 a1_6) := (blk_cell BK110.out 6).trans rfl; have hcz35_7 : w32.cell? ⟨gb110, 7, none⟩ = some (.slice A1_7 l1_7.length c1_7) := (blk_cell BK110.out 7).trans rfl; have hfz35_0 := blk_frozen BK110.out 0; have hfz35_1 := blk_frozen BK110.out 1; have hfz35_2 := blk_frozen BK110.out 2; have hfz35_3 := blk_frozen BK110.out 3; have hfz35_4 := blk_frozen BK110.out 4; have hfz35_5 := blk_frozen BK110.out 5; have hfz35_6 := blk_frozen BK110.out 6; have hfz35_7 := blk_frozen BK110.out 7))
          go_ret
          exact ⟨by first | rfl | (simp [errW_none, errW_some] <;> rfl) | (simp [*, errW_none, errW_some] <;> rfl), by repeat (first | (with_reducible first | exact HB.out | apply below_alloc | apply pw_below_drewN | apply below_drew1 | refine below_set ?_ GE109.out | refine below_set ?_ GE110.out) | exact HB.out)⟩
      · rw [if_neg c5] at H
        have c5b0 : (a0_2 == a1_2) = false := beq_eq_false_iff_ne.mpr c5
        have c5b1 : (a0_2 != a1_2) = true := bne_iff_ne.mpr c5
        obtain rfl := Option.some.inj H
        go_enter Tryd.func24, Tryd.ntmps24
        go_wp2_with (first | ((with_reducible refine gate_dst (N := 2) rfl ?_); refine box_event ?hg (N := 2) ?hd (cs := #[.int .i64 a0_0, .int .i64 a0_1, .int .i64 a0_2, .int .i64 a0_3, .int .i64 a0_4, .int .i64 a0_5, .int .i64 a0_6, .slice A0_7 l0_7.length c0_7]) (t := 24) ?hr ?_; (case hd => rfl); (case hg => rfl); (case hr => first | (go_simp; done) | (go_simp; rfl)); intro gb109 hg w36 hbox hb; have n0_ := Aside0.mk (below_step (by repeat (first | (with_reducible first | exact HB.out | apply below_alloc | apply pw_below_drewN | apply below_drew1) | exact HB.out)) hb); have n1_ := Aside0.mk (hbox); have n2_ := Aside0.mk ((by rw [hg]; exact (below_size (by repeat (first | (with_reducible first | exact HB.out | apply below_alloc | apply pw_below_drewN | apply below_drew1) | exact HB.out))) : w.heap.size ≤ gb109)); have n3_ := Aside0.mk ((by rw [hg]; exact (below_size (by repeat (first | (with_reducible first | exact HB.out | apply below_alloc | apply pw_below_drewN | apply below_drew1) | exact HB.out))) : w.heap.size ≤ gb109)); clear HB; have HB := n0_; have BK109 := n1_; have GW109 := n2_; have GE109 := n3_; clear n0_ n1_ n2_ n3_; clear hb hbox hg) | ((with_reducible refine gate_dst (N := 3) rfl ?_); refine box_event ?hg (N := 3) ?hd (cs := #[.int .i64 a1_0, .int .i64 a1_1, .int .i64 a1_2, .int .i64 a1_3, .int .i64 a1_4, .int .i64 a1_5, .int .i64 a1_6, .slice A1_7 l1_7.length c1_7]) (t := 24) ?hr ?_; (case hd => rfl); (case hg => rfl); (case hr => first | (go_simp; done) | (go_simp; rfl)); intro gb110 hg w37 hbox hb; have n0_ := Aside0.mk (blk_below (g := gb109) (o := .cells #[.int .i64 a0_0, .int .i64 a0_1, .int .i64 a0_2, .int .i64 a0_3, .int .i64 a0_4, .int .i64 a0_5, .int .i64 a0_6, .slice A0_7 l0_7.length c0_7] 24 (0, 0)) (by (with_reducible repeat (first | refine blk_drewN ?_ _ | refine blk_drew ?_ | refine blk_alloc ?_ _)); exact BK109.out) hb); have n1_ := Aside0.mk (below_step (by repeat (first | (with_reducible first | exact HB.out | apply below_alloc | apply pw_below_drewN | apply below_drew1 | refine below_set ?_ GE109.out) | exact HB.out)) hb); have n2_ := Aside0.mk (hbox); have n3_ := Aside0.mk ((by rw [hg]; exact (below_size (by repeat (first | (with_reducible first | exact HB.out | apply below_alloc | apply pw_below_drewN | apply below_drew1 | refine below_set ?_ GE109.out) | exact HB.out))) : w.heap.size ≤ gb110)); have n4_ := Aside0.mk ((by rw [hg]; exact (below_size (by repeat (first | (with_reducible first | exact HB.out | apply below_alloc | apply pw_below_drewN | apply below_drew1 | refine below_set ?_ GE109.out) | exact HB.out))) : w.heap.size ≤ gb110)); have n5_ := Aside0.mk ((by rw [hg]; exact Nat.ne_of_lt (blk_lt (g := gb109) (o := .cells #[.int .i64 a0_0, .int .i64 a0_1, .int .i64 a0_2, .int .i64 a0_3, .int .i64 a0_4, .int .i64 a0_5, .int .i64 a0_6, .slice A0_7 l0_7.length c0_7] 24 (0, 0)) (by (with_reducible repeat (first | refine blk_drewN ?_ _ | refine blk_drew ?_ | refine blk_alloc ?_ _)); exact BK109.out)) : gb109 ≠ gb110)); have n6_ := Aside0.mk ((by rw [hg]; exact Nat.ne_of_gt (blk_lt (g := gb109) (o := .cells #[.int .i64 a0_0, .int .i64 a0_1, .int .i64 a0_2, .int .i64 a0_3, .int .i64 a0_4, .int .i64 a0_5, .int .i64 a0_6, .slice A0_7 l0_7.length c0_7] 24 (0, 0)) (by (with_reducible repeat (first | refine blk_drewN ?_ _ | refine blk_drew ?_ | refine blk_alloc ?_ _)); exact BK109.out)) : gb110 ≠ gb109)); clear BK109; clear HB; have BK109 := n0_; have HB := n1_; have BK110 := n2_; have GW110 := n3_; have GE110 := n4_; have NB109_110 := n5_; have NB110_109 := n6_; clear n0_ n1_ n2_ n3_ n4_ n5_ n6_; clear hb hbox hg; have hnb38 := NB109_110.out; have hnc38 := NB110_109.out; have hcz39_0 : w37.cell? ⟨gb109, 0, none⟩ = some (.int .i64 a0_0) := (blk_cell BK109.out 0).trans rfl; have hcz39_1 : w37.cell? ⟨gb109, 1, none⟩ = some (.int .i64 a0_1) := (blk_cell BK109.out 1).trans rfl; have hcz39_2 : w37.cell? ⟨gb109, 2, none⟩ = some (.int .i64 a0_2) := (blk_cell BK109.out 2).trans rfl; have hcz39_3 : w37.cell? ⟨gb109, 3, none⟩ = some (.int .i64 a0_3) := (blk_cell BK109.out 3).trans rfl; have hcz39_4 : w37.cell? ⟨gb109, 4, none⟩ = some (.int .i64 a0_4) := (blk_cell BK109.out 4).trans rfl; have hcz39_5 : w37.cell? ⟨gb109, 5, none⟩ = some (.int .i64 a0_5) := (blk_cell BK109.out 5).trans rfl; have hcz39_6 : w37.cell? ⟨gb109, 6, none⟩ = some (.int .i64 a0_6) := (blk_cell BK109.out 6).trans rfl; have hcz39_7 : w37.cell? ⟨gb109, 7, none⟩ = some (.slice A0_7 l0_7.length c0_7) := (blk_cell BK109.out 7).trans rfl; have hfz39_0 := blk_frozen BK109.out 0; have hfz39_1 := blk_frozen BK109.out 1; have hfz39_2 := blk_frozen BK109.out 2; have hfz39_3 := blk_frozen BK109.out 3; have hfz39_4 := blk_frozen BK109.out 4; have hfz39_5 := blk_frozen BK109.out 5; have hfz39_6 := blk_frozen BK109.out 6; have hfz39_7 := blk_frozen BK109.out 7; have hcz40_0 : w37.cell? ⟨gb110, 0, none⟩ = some (.int .i64 a1_0) := (blk_cell BK110.out 0).trans rfl; have hcz40_1 : w37.cell? ⟨gb110, 1, none⟩ = some (.int .i64 a1_1) := (blk_cell BK110.out 1).trans rfl; have hcz40_2 : w37.cell? ⟨gb110, 2, none⟩ = some (.int .i64 a1_2) := (blk_cell BK110.out 2).trans rfl; have hcz40_3 : w37.cell? ⟨gb110, 3, none⟩ = some (.int .i64 a1_3) := (blk_cell BK110.out 3).trans rfl; have hcz40_4 : w37.cell? ⟨gb110, 4, none⟩ = some (.int .i64 a1_4) := (blk_cell BK110.out 4).trans rfl; have hcz40_5 : w37.cell? ⟨gb110, 5, none⟩ = some (.int .i64 a1_5) := (blk_cell BK110.out 5).trans rfl; have hcz40_6 : w37.cell? ⟨gb110, 6, none⟩ = some (.int .i64 a1_6) := (blk_cell BK110.out 6).trans rfl; have hcz40_7 : w37.cell? ⟨gb110, 7, none⟩ = some (.slice A1_7 l1_7.length c1_7) := (blk_cell BK110.out 7).trans rfl; have hfz40_0 := blk_frozen BK110.out 0; have hfz40_1 := blk_frozen BK110.out 1; have hfz40_2 := blk_frozen BK110.out 2; have hfz40_3 := blk_frozen BK110.out 3; have hfz40_4 := blk_frozen BK110.out 4; have hfz40_5 := blk_frozen BK110.out 5; have hfz40_6 := blk_frozen BK110.out 6; have hfz40_7 := blk_frozen BK110.out 7))
        go_ret
        exact ⟨by first | rfl | (simp [errW_none, errW_some] <;> rfl) | (simp [*, errW_none, errW_some] <;> rfl), by repeat (first | (with_reducible first | exact HB.out | apply below_alloc | apply pw_below_drewN | apply below_drew1 | refine below_set ?_ GE109.out | refine below_set ?_ GE110.out) | exact HB.out)⟩
    · rw [if_neg c4] at H
      have c4b0 : (a0_1 == a1_1) = false := beq_eq_false_iff_ne.mpr c4
      have c4b1 : (a0_1 != a1_1) = true := bne_iff_ne.mpr c4
      obtain rfl := Option.some.inj H
      go_enter Tryd.func24, Tryd.ntmps24
      go_wp2_with (first | ((with_reducible refine gate_dst (N := 2) rfl ?_); refine box_event ?hg (N := 2) ?hd (cs := #[.int .i64 a0_0, .int .i64 a0_1, .int .i64 a0_2, .int .i64 a0_3, .int .i64 a0_4, .int .i64 a0_5, .int .i64 a0_6, .slice A0_7 l0_7.length c0_7]) (t := 24) ?hr ?_; (case hd => rfl); (case hg => rfl); (case hr => first | (go_simp; done) | (go_simp; rfl)); intro gb109 hg w41 hbox hb; have n0_ := Aside0.mk (below_step (by repeat (first | (with_reducible first | exact HB.out | apply below_alloc | apply pw_below_drewN | apply below_drew1) | exact HB.out)) hb); have n1_ := Aside0.mk (hbox); have n2_ := Aside0.mk ((by rw [hg]; exact (below_size (by repeat (first | (with_reducible first | exact HB.out | apply below_alloc | apply pw_below_drewN | apply below_drew1) | exact HB.out))) : w.heap.size ≤ gb109)); have n3_ := Aside0.mk ((by rw [hg]; exact (below_size (by repeat (first | (with_reducible first | exact HB.out | apply below_alloc | apply pw_below_drewN | apply below_drew1) | exact HB.out))) : w.heap.size ≤ gb109)); clear HB; have HB := n0_; have BK109 := n1_; have GW109 := n2_; have GE109 := n3_; clear n0_ n1_ n2_ n3_; clear hb hbox hg) | ((with_reducible refine gate_dst (N := 3) rfl ?_); refine box_event ?hg (N := 3) ?hd (cs := #[.int .i64 a1_0, .int .i64 a1_1, .int .i64 a1_2, .int .i64 a1_3, .int .i64 a1_4, .int .i64 a1_5, .int .i64 a1_6, .slice A1_7 l1_7.length c1_7]) (t := 24) ?hr ?_; (case hd => rfl); (case hg => rfl); (case hr => first | (go_simp; done) | (go_simp; rfl)); intro gb110 hg w42 hbox hb; have n0_ := Aside0.mk (blk_below (g := gb109) (o := .cells #[.int .i64 a0_0, .int .i64 a0_1, .int .i64 a0_2, .int .i64 a0_3, .int .i64 a0_4, .int .i64 a0_5, .int .i64 a0_6, .slice A0_7 l0_7.length c0_7] 24 (0, 0)) (by (with_reducible repeat (first | refine blk_drewN ?_ _ | refine blk_drew ?_ | refine blk_alloc ?_ _)); exact BK109.out) hb); have n1_ := Aside0.mk (below_step (by repeat (first | (with_reducible first | exact HB.out | apply below_alloc | apply pw_below_drewN | apply below_drew1 | refine below_set ?_ GE109.out) | exact HB.out)) hb); have n2_ := Aside0.mk (hbox); have n3_ := Aside0.mk ((by rw [hg]; exact (below_size (by repeat (first | (with_reducible first | exact HB.out | apply below_alloc | apply pw_below_drewN | apply below_drew1 | refine below_set ?_ GE109.out) | exact HB.out))) : w.heap.size ≤ gb110)); have n4_ := Aside0.mk ((by rw [hg]; exact (below_size (by repeat (first | (with_reducible first | exact HB.out | apply below_alloc | apply pw_below_drewN | apply below_drew1 | refine below_set ?_ GE109.out) | exact HB.out))) : w.heap.size ≤ gb110)); have n5_ := Aside0.mk ((by rw [hg]; exact Nat.ne_of_lt (blk_lt (g := gb109) (o := .cells #[.int .i64 a0_0, .int .i64 a0_1, .int .i64 a0_2, .int .i64 a0_3, .int .i64 a0_4, .int .i64 a0_5, .int .i64 a0_6, .slice A0_7 l0_7.length c0_7] 24 (0, 0)) (by (with_reducible repeat (first | refine blk_drewN ?_ _ | refine blk_drew ?_ | refine blk_alloc ?_ _)); exact BK109.out)) : gb109 ≠ gb110)); have n6_ := Aside0.mk ((by rw [hg]; exact Nat.ne_of_gt (blk_lt (g := gb109) (o := .cells #[.int .i64 a0_0, .int .i64 a0_1, .int .i64 a0_2, .int .i64 a0_3, .int .i64 a0_4, .int .i64 a0_5, .int .i64 a0_6, .slice A0_7 l0_7.length c0_7] 24 (0, 0)) (by (with_reducible repeat (first | refine blk_drewN ?_ _ | refine blk_drew ?_ | refine blk_alloc ?_ _)); exact BK109.out)) : gb110 ≠ gb109)); clear BK109; clear HB; have BK109 := n0_; have HB := n1_; have BK110 := n2_; have GW110 := n3_; have GE110 := n4_; have NB109_110 := n5_; have NB110_109 := n6_; clear n0_ n1_ n2_ n3_ n4_ n5_ n6_; clear hb hbox hg; have hnb43 := NB109_110.out; have hnc43 := NB110_109.out; have hcz44_0 : w42.cell? ⟨gb109, 0, none⟩ = some (.int .i64 a0_0) := (blk_cell BK109.out 0).trans rfl; have hcz44_1 : w42.cell? ⟨gb109, 1, none⟩ = some (.int .i64 a0_1) := (blk_cell BK109.out 1).trans rfl; have hcz44_2 : w42.cell? ⟨gb109, 2, none⟩ = some (.int .i64 a0_2) := (blk_cell BK109.out 2).trans rfl; have hcz44_3 : w42.cell? ⟨gb109, 3, none⟩ = some (.int .i64 a0_3) := (blk_cell BK109.out 3).trans rfl; have hcz44_4 : w42.cell? ⟨gb109, 4, none⟩ = some (.int .i64 a0_4) := (blk_cell BK109.out 4).trans rfl; have hcz44_5 : w42.cell? ⟨gb109, 5, none⟩ = some (.int .i64 a0_5) := (blk_cell BK109.out 5).trans rfl; have hcz44_6 : w42.cell? ⟨gb109, 6, none⟩ = some (.int .i64 a0_6) := (blk_cell BK109.out 6).trans rfl; have hcz44_7 : w42.cell? ⟨gb109, 7, none⟩ = some (.slice A0_7 l0_7.length c0_7) := (blk_cell BK109.out 7).trans rfl; have hfz44_0 := blk_frozen BK109.out 0; have hfz44_1 := blk_frozen BK109.out 1; have hfz44_2 := blk_frozen BK109.out 2; have hfz44_3 := blk_frozen BK109.out 3; have hfz44_4 := blk_frozen BK109.out 4; have hfz44_5 := blk_frozen BK109.out 5; have hfz44_6 := blk_frozen BK109.out 6; have hfz44_7 := blk_frozen BK109.out 7; have hcz45_0 : w42.cell? ⟨gb110, 0, none⟩ = some (.int .i64 a1_0) := (blk_cell BK110.out 0).trans rfl; have hcz45_1 : w42.cell? ⟨gb110, 1, none⟩ = some (.int .i64 a1_1) := (blk_cell BK110.out 1).trans rfl; have hcz45_2 : w42.cell? ⟨gb110, 2, none⟩ = some (.int .i64 a1_2) := (blk_cell BK110.out 2).trans rfl; have hcz45_3 : w42.cell? ⟨gb110, 3, none⟩ = some (.int .i64 a1_3) := (blk_cell BK110.out 3).trans rfl; have hcz45_4 : w42.cell? ⟨gb110, 4, none⟩ = some (.int .i64 a1_4) := (blk_cell BK110.out 4).trans rfl; have hcz45_5 : w42.cell? ⟨gb110, 5, none⟩ = some (.int .i64 a1_5) := (blk_cell BK110.out 5).trans rfl; have hcz45_6 : w42.cell? ⟨gb110, 6, none⟩ = some (.int .i64 a1_6) := (blk_cell BK110.out 6).trans rfl; have hcz45_7 : w42.cell? ⟨gb110, 7, none⟩ = some (.slice A1_7 l1_7.length c1_7) := (blk_cell BK110.out 7).trans rfl; have hfz45_0 := blk_frozen BK110.out 0; have hfz45_1 := blk_frozen BK110.out 1; have hfz45_2 := blk_frozen BK110.out 2; have hfz45_3 := blk_frozen BK110.out 3; have hfz45_4 := blk_frozen BK110.out 4; have hfz45_5 := blk_frozen BK110.out 5; have hfz45_6 := blk_frozen BK110.out 6; have hfz45_7 := blk_frozen BK110.out 7))
      go_ret
      exact ⟨by first | rfl | (simp [errW_none, errW_some] <;> rfl) | (simp [*, errW_none, errW_some] <;> rfl), by repeat (first | (with_reducible first | exact HB.out | apply below_alloc | apply pw_below_drewN | apply below_drew1 | refine below_set ?_ GE109.out | refine below_set ?_ GE110.out) | exact HB.out)⟩
  · rw [if_neg c3] at H
    have c3b0 : (a0_0 == a1_0) = false := beq_eq_false_iff_ne.mpr c3
    have c3b1 : (a0_0 != a1_0) = true := bne_iff_ne.mpr c3
    obtain rfl := Option.some.inj H
    go_enter Tryd.func24, Tryd.ntmps24
    go_wp2_with (first | ((with_reducible refine gate_dst (N := 2) rfl ?_); refine box_event ?hg (N := 2) ?hd (cs := #[.int .i64 a0_0, .int .i64 a0_1, .int .i64 a0_2, .int .i64 a0_3, .int .i64 a0_4, .int .i64 a0_5, .int .i64 a0_6, .slice A0_7 l0_7.length c0_7]) (t := 24) ?hr ?_; (case hd => rfl); (case hg => rfl); (case hr => first | (go_simp; done) | (go_simp; rfl)); intro gb109 hg w46 hbox hb; have n0_ := Aside0.mk (below_step (by repeat (first | (with_reducible first | exact HB.out | apply below_alloc | apply pw_below_drewN | apply below_drew1) | exact HB.out)) hb); have n1_ := Aside0.mk (hbox); have n2_ := Aside0.mk ((by rw [hg]; exact (below_size (by repeat (first | (with_reducible first | exact HB.out | apply below_alloc | apply pw_below_drewN | apply below_drew1) | exact HB.out))) : w.heap.size ≤ gb109)); have n3_ := Aside0.mk ((by rw [hg]; exact (below_size (by repeat (first | (with_reducible first | exact HB.out | apply below_alloc | apply pw_below_drewN | apply below_drew1) | exact HB.out))) : w.heap.size ≤ gb109)); clear HB; have HB := n0_; have BK109 := n1_; have GW109 := n2_; have GE109 := n3_; clear n0_ n1_ n2_ n3_; clear hb hbox hg) | ((with_reducible refine gate_dst (N := 3) rfl ?_); refine box_event ?hg (N := 3) ?hd (cs := #[.int .i64 a1_0, .int .i64 a1_1, .int .i64 a1_2, .int .i64 a1_3, .int .i64 a1_4, .int .i64 a1_5, .int .i64 a1_6, .slice A1_7 l1_7.length c1_7]) (t := 24) ?hr ?_; (case hd => rfl); (case hg => rfl); (case hr => first | (go_simp; done) | (go_simp; rfl)); intro gb110 hg w47 hbox hb; have n0_ := Aside0.mk (blk_below (g := gb109) (o := .cells #[.int .i64 a0_0, .int .i64 a0_1, .int .i64 a0_2, .int .i64 a0_3, .int .i64 a0_4, .int .i64 a0_5, .int .i64 a0_6, .slice A0_7 l0_7.length c0_7] 24 (0, 0)) (by (with_reducible repeat (first | refine blk_drewN ?_ _ | refine blk_drew ?_ | refine blk_alloc ?_ _)); exact BK109.out) hb); have n1_ := Aside0.mk (below_step (by repeat (first | (with_reducible first | exact HB.out | apply below_alloc | apply pw_below_drewN | apply below_drew1 | refine below_set ?_ GE109.out) | exact HB.out)) hb); have n2_ := Aside0.mk (hbox); have n3_ := Aside0.mk ((by rw [hg]; exact (below_size (by repeat (first | (with_reducible first | exact HB.out | apply below_alloc | apply pw_below_drewN | apply below_drew1 | refine below_set ?_ GE109.out) | exact HB.out))) : w.heap.size ≤ gb110)); have n4_ := Aside0.mk ((by rw [hg]; exact (below_size (by repeat (first | (with_reducible first | exact HB.out | apply below_alloc | apply pw_below_drewN | apply below_drew1 | refine below_set ?_ GE109.out) | exact HB.out))) : w.heap.size ≤ gb110)); have n5_ := Aside0.mk ((by rw [hg]; exact Nat.ne_of_lt (blk_lt (g := gb109) (o := .cells #[.int .i64 a0_0, .int .i64 a0_1, .int .i64 a0_2, .int .i64 a0_3, .int .i64 a0_4, .int .i64 a0_5, .int .i64 a0_6, .slice A0_7 l0_7.length c0_7] 24 (0, 0)) (by (with_reducible repeat (first | refine blk_drewN ?_ _ | refine blk_drew ?_ | refine blk_alloc ?_ _)); exact BK109.out)) : gb109 ≠ gb110)); have n6_ := Aside0.mk ((by rw [hg]; exact Nat.ne_of_gt (blk_lt (g := gb109) (o := .cells #[.int .i64 a0_0, .int .i64 a0_1, .int .i64 a0_2, .int .i64 a0_3, .int .i64 a0_4, .int .i64 a0_5, .int .i64 a0_6, .slice A0_7 l0_7.length c0_7] 24 (0, 0)) (by (with_reducible repeat (first | refine blk_drewN ?_ _ | refine blk_drew ?_ | refine blk_alloc ?_ _)); exact BK109.out)) : gb110 ≠ gb109)); clear BK109; clear HB; have BK109 := n0_; have HB := n1_; have BK110 := n2_; have GW110 := n3_; have GE110 := n4_; have NB109_110 := n5_; have NB110_109 := n6_; clear n0_ n1_ n2_ n3_ n4_ n5_ n6_; clear hb hbox hg; have hnb48 := NB109_110.out; have hnc48 := NB110_109.out; have hcz49_0 : w47.cell? ⟨gb109, 0, none⟩ = some (.int .i64 a0_0) := (blk_cell BK109.out 0).trans rfl; have hcz49_1 : w47.cell? ⟨gb109, 1, none⟩ = some (.int .i64 a0_1) := (blk_cell BK109.out 1).trans rfl; have hcz49_2 : w47.cell? ⟨gb109, 2, none⟩ = some (.int .i64 a0_2) := (blk_cell BK109.out 2).trans rfl; have hcz49_3 : w47.cell? ⟨gb109, 3, none⟩ = some (.int .i64 a0_3) := (blk_cell BK109.out 3).trans rfl; have hcz49_4 : w47.cell? ⟨gb109, 4, none⟩ = some (.int .i64 a0_4) := (blk_cell BK109.out 4).trans rfl; have hcz49_5 : w47.cell? ⟨gb109, 5, none⟩ = some (.int .i64 a0_5) := (blk_cell BK109.out 5).trans rfl; have hcz49_6 : w47.cell? ⟨gb109, 6, none⟩ = some (.int .i64 a0_6) := (blk_cell BK109.out 6).trans rfl; have hcz49_7 : w47.cell? ⟨gb109, 7, none⟩ = some (.slice A0_7 l0_7.length c0_7) := (blk_cell BK109.out 7).trans rfl; have hfz49_0 := blk_frozen BK109.out 0; have hfz49_1 := blk_frozen BK109.out 1; have hfz49_2 := blk_frozen BK109.out 2; have hfz49_3 := blk_frozen BK109.out 3; have hfz49_4 := blk_frozen BK109.out 4; have hfz49_5 := blk_frozen BK109.out 5; have hfz49_6 := blk_frozen BK109.out 6; have hfz49_7 := blk_frozen BK109.out 7; have hcz50_0 : w47.cell? ⟨gb110, 0, none⟩ = some (.int .i64 a1_0) := (blk_cell BK110.out 0).trans rfl; have hcz50_1 : w47.cell? ⟨gb110, 1, none⟩ = some (.int .i64 a1_1) := (blk_cell BK110.out 1).trans rfl; have hcz50_2 : w47.cell? ⟨gb110, 2, none⟩ = some (.int .i64 a1_2) := (blk_cell BK110.out 2).trans rfl; have hcz50_3 : w47.cell? ⟨gb110, 3, none⟩ = some (.int .i64 a1_3) := (blk_cell BK110.out 3).trans rfl; have hcz50_4 : w47.cell? ⟨gb110, 4, none⟩ = some (.int .i64 a1_4) := (blk_cell BK110.out 4).trans rfl; have hcz50_5 : w47.cell? ⟨gb110, 5, none⟩ = some (.int .i64 a1_5) := (blk_cell BK110.out 5).trans rfl; have hcz50_6 : w47.cell? ⟨gb110, 6, none⟩ = some (.int .i64 a1_6) := (blk_cell BK110.out 6).trans rfl; have hcz50_7 : w47.cell? ⟨gb110, 7, none⟩ = some (.slice A1_7 l1_7.length c1_7) := (blk_cell BK110.out 7).trans rfl; have hfz50_0 := blk_frozen BK110.out 0; have hfz50_1 := blk_frozen BK110.out 1; have hfz50_2 := blk_frozen BK110.out 2; have hfz50_3 := blk_frozen BK110.out 3; have hfz50_4 := blk_frozen BK110.out 4; have hfz50_5 := blk_frozen BK110.out 5; have hfz50_6 := blk_frozen BK110.out 6; have hfz50_7 := blk_frozen BK110.out 7))
    go_ret
    exact ⟨by first | rfl | (simp [errW_none, errW_some] <;> rfl) | (simp [*, errW_none, errW_some] <;> rfl), by repeat (first | (with_reducible first | exact HB.out | apply below_alloc | apply pw_below_drewN | apply below_drew1 | refine below_set ?_ GE109.out | refine below_set ?_ GE110.out) | exact HB.out)⟩
def trace_rises.l0 : Nat → Int → List Int → Int → Int → Option (Bool)
  | 0, _, _, _, _ => none
  | k + 1, x3, x6, x7, x8 => if x8 < x7 then (if 0 ≤ x8 then (if x8 < (x6.length : Int) then (if (rd x6 x8) ≤ x3 then (some false) else (trace_rises.l0 k (rd x6 x8) x6 x7 (wrap64 (x8 + 1)))) else (none)) else (none)) else (some true)
def trace_rises.f (k : Nat) (l0 : List Int) : Option (Bool) := trace_rises.l0 k (-1) l0 (l0.length : Int) 0
theorem trace_rises.mono_l : ∀ k, (∀ y0 y1 y2 y3, LeO (trace_rises.l0 k y0 y1 y2 y3) (trace_rises.l0 (k + 1) y0 y1 y2 y3))
  | 0 => fun _ _ _ _ r h => by simp [trace_rises.l0] at h
  | k + 1 => by
    have ih0 := trace_rises.mono_l k
    · intro y0 y1 y2 y3
      unfold trace_rises.l0
      repeat' first
      | (with_reducible exact ih0 _ _ _ _)
      | (with_reducible exact LeO.refl _)
      | (with_reducible exact LeO.none _)
      | (with_reducible refine LeO.ite ?_ ?_)
      | (with_reducible refine LeO.bind ?_ (fun _ => ?_))
      | exact ih0 _ _ _ _
      | exact LeO.none _
      | refine LeO.ite ?_ ?_
      | refine LeO.bind ?_ (fun _ => ?_)
theorem trace_rises.mono : ∀ a0 k, LeO (trace_rises.f k a0) (trace_rises.f (k + 1) a0) := by
  intro a0 k
  have ih0 := trace_rises.mono_l k
  unfold trace_rises.f
  repeat' first
      | (with_reducible exact ih0 _ _ _ _)
      | (with_reducible exact LeO.refl _)
      | (with_reducible exact LeO.none _)
      | (with_reducible refine LeO.ite ?_ ?_)
      | (with_reducible refine LeO.bind ?_ (fun _ => ?_))
      | exact ih0 _ _ _ _
      | exact LeO.none _
      | refine LeO.ite ?_ ?_
      | refine LeO.bind ?_ (fun _ => ?_)
set_option maxHeartbeats 8000000 in
set_option maxRecDepth 100000 in
theorem trace_rises.calls (k : Nat) (A0 : Option Addr) (c0 : Nat) (l0 : List Int) (r : Bool) (w : World) (hr0 : Kd.C (Kd.int .i64) w A0 l0.length l0) (hc0 : l0.length ≤ c0) (h : trace_rises.f k l0 = some r) :
    Calls Tryd.prog 25 #[.slice A0 l0.length c0] w fun e w' => e = .returned (.bool r) ∧ Drawn0 w w' := by
  have HR0 := Aside0.mk hr0
  have HC0 := Aside0.mk hc0
  clear hr0 hc0
  have H : (trace_rises.l0 k (-1) l0 (l0.length : Int) 0) = some r := h
  clear h
  have H' := Aside0.mk H
  clear H
  go_enter Tryd.func25, Tryd.ntmps25
  go_wp2
  go_loopg [3, 8] k (fun kq v3 v8 w' => ∃ (x3_1 : Int) (x8_1 : Int), v3 = .int .i64 x3_1 ∧ v8 = .int .i64 x8_1 ∧ Aside0 (trace_rises.l0 kq x3_1 l0 (l0.length : Int) x8_1 = some r) ∧ Aside0 (kq ≤ k) ∧ Drawn0 w w')
  case atStart => exact ⟨((-1)), (0), (by first | rfl | (simp; done) | (simp [*]; done)), (by first | rfl | (simp; done) | (simp [*]; done)), H', ⟨Nat.le_refl _⟩, by repeat (first | exact Drawn0.refl _ | apply Drawn0.step)⟩
  case round =>
    clear H'
    obtain ⟨x3_1, x8_1, rfl, rfl, HA, HK1, ⟨m1, rfl⟩⟩ := hrel
    cases gk with
    | zero => exact absurd HA.out (by simp [trace_rises.l0])
    | succ k1 =>
      have H := HA.out
      clear HA
      simp only [trace_rises.l0] at H
      by_cases c2 : x8_1 < (l0.length : Int)
      · rw [if_pos c2] at H
        have c2b0 : decide (x8_1 < (l0.length : Int)) = true := decide_eq_true c2
        clear c2
        by_cases c3 : 0 ≤ x8_1
        · rw [if_pos c3] at H
          have c3b0 : decide (0 ≤ x8_1) = true := decide_eq_true c3
          clear c3
          by_cases c4 : x8_1 < (l0.length : Int)
          · rw [if_pos c4] at H
            have c4b0 : decide (x8_1 < (l0.length : Int)) = true := decide_eq_true c4
            clear c4
            by_cases c5 : (rd l0 x8_1) ≤ x3_1
            · rw [if_pos c5] at H
              have c5b0 : decide ((rd l0 x8_1) ≤ x3_1) = true := decide_eq_true c5
              clear c5
              obtain rfl := Option.some.inj H
              have p112 : 0 ≤ (x8_1 : Int) := of_decide_eq_true (by first | (with_reducible assumption) | assumption)
              have q112 : x8_1 < (l0.length : Int) := of_decide_eq_true (by first | (with_reducible assumption) | assumption)
              obtain ⟨ad112, e112, hx112_0⟩ := Kd.at_int HR0.out x8_1 p112 q112
              cases e112
              replace p112 := eq_true p112
              replace q112 := eq_true q112
              go_wp2
              go_ret
              exact ⟨by first | rfl | (simp; done) | (simp [*]; done), by repeat (first | exact Drawn0.refl _ | apply Drawn0.step)⟩
            · rw [if_neg c5] at H
              have c5b0 : decide ((rd l0 x8_1) ≤ x3_1) = false := decide_eq_false c5
              clear c5
              have H' := Aside0.mk H
              clear H
              have p112 : 0 ≤ (x8_1 : Int) := of_decide_eq_true (by first | (with_reducible assumption) | assumption)
              have q112 : x8_1 < (l0.length : Int) := of_decide_eq_true (by first | (with_reducible assumption) | assumption)
              obtain ⟨ad112, e112, hx112_0⟩ := Kd.at_int HR0.out x8_1 p112 q112
              cases e112
              replace p112 := eq_true p112
              replace q112 := eq_true q112
              go_wp2
              go_roundg k1
              case measure => have := HK1.out; omega
              case rel => exact ⟨(rd l0 x8_1), (wrap64 (x8_1 + 1)), (by first | rfl | (simp; done) | (simp [*]; done)), (by first | rfl | (simp; done) | (simp [*]; done)), H', ⟨by have := HK1.out; omega⟩, by repeat (first | exact Drawn0.refl _ | apply Drawn0.step)⟩
          · rw [if_neg c4] at H
            exact absurd H (by simp)
        · rw [if_neg c3] at H
          exact absurd H (by simp)
      · rw [if_neg c2] at H
        have c2b0 : decide (x8_1 < (l0.length : Int)) = false := decide_eq_false c2
        clear c2
        obtain rfl := Option.some.inj H
        go_wp2
        go_ret
        exact ⟨by first | rfl | (simp; done) | (simp [*]; done), by repeat (first | exact Drawn0.refl _ | apply Drawn0.step)⟩
end Go.Proofs.YtiapfhlipoomaaaDoor.Print
end
section
namespace Go.Proofs.YtiapfhlipoomaaaDoor.Given
open Go.RowKit Go.Proofs.YtiapfhlipoomaaaDoorW.PrintWords Go.Proofs.YtiapfhlipoomaaaDoorW.PrintLast Go.Proofs.YtiapfhlipoomaaaDoorW.PrintMore Go.Proofs.YtiapfhlipoomaaaDoor.Print
set_option linter.unusedVariables false
set_option linter.unusedSimpArgs false
theorem at0_2 (w : World) (a b : Obj) : ((w.alloc a).alloc b).heap[w.heap.size]? = some a := blk_below (heap_alloc_new w a) (below_alloc (Below.refl _ _) b)
theorem at0_3 (w : World) (a b c : Obj) : (((w.alloc a).alloc b).alloc c).heap[w.heap.size]? = some a := blk_below (at0_2 w a b) (below_alloc (Below.refl _ _) c)
abbrev trapsA : Array Value := #[.string ⟨#[]⟩, .string ⟨#[100, 105, 118, 105, 100, 101]⟩, .string ⟨#[105, 110, 100, 101, 120]⟩, .string ⟨#[102, 105, 108, 108]⟩, .string ⟨#[110, 105, 108]⟩, .string ⟨#[119, 114, 111, 110, 103]⟩]
set_option maxRecDepth 100000 in
theorem traps_any (w : World) : Calls Tryd.prog 40 #[] w fun e w' => e = .returned (.slice (some ⟨w.heap.size, 0, none⟩) 6 6) ∧ w' = w.alloc (.cells trapsA 9) := by
  go_enter Tryd.func40, Tryd.ntmps40
  go_wp2
  go_ret
  exact ⟨rfl, rfl⟩
abbrev countersA : Array Value := #[.string ⟨#[]⟩, .string ⟨#[112, 114, 111, 99, 115]⟩, .string ⟨#[108, 105, 118, 101]⟩, .string ⟨#[99, 104, 97, 110, 115]⟩, .string ⟨#[116, 105, 99, 107, 115]⟩, .string ⟨#[99, 101, 108, 108, 115]⟩, .string ⟨#[100, 101, 112, 116, 104]⟩]
set_option maxRecDepth 100000 in
theorem counters_any (w : World) : Calls Tryd.prog 41 #[] w fun e w' => e = .returned (.slice (some ⟨w.heap.size, 0, none⟩) 7 7) ∧ w' = w.alloc (.cells countersA 9) := by
  go_enter Tryd.func41, Tryd.ntmps41
  go_wp2
  go_ret
  exact ⟨rfl, rfl⟩
set_option maxRecDepth 100000 in
set_option maxHeartbeats 4000000 in
theorem form_1 (g : Nat) (v0 v1 v2 v3 v4 v5 v6 v7 : Value) (w : World) (h0 : v0 = .int .i64 1) (hb : w.heap[g]? = some (.cells #[v0, v1, v2, v3, v4, v5, v6, v7] 24 (0, 0))) : Calls Tryd.prog 23 #[.pointer (some ⟨g, 0, none⟩)] w fun e w' => e = .returned (.tuple #[.agg #[.string ⟨#[98, 111, 114, 110]⟩, .slice (some ⟨w.heap.size + 1, 0, none⟩) 2 2, .pointer none, .slice none 0 0, .pointer none, .bool false], .bool true]) ∧ w' = ((w.alloc (.cells #[.string ⟨#[98, 111, 114, 110]⟩, .slice (some ⟨w.heap.size + 1, 0, none⟩) 2 2, .pointer none, .slice none 0 0, .pointer none, .bool false] 48)).alloc (.cells #[.pointer (some ⟨g, 1, none⟩), .pointer (some ⟨g, 3, none⟩)] 45)).drew := by
  have hu24 := Tryd.underlying24
  have hu48 := Tryd.underlying48
  subst h0
  have x0 : ∀ o, (w.alloc o).cell? ⟨g, 0, none⟩ = some (.int .i64 1) := fun o => pw_cell_below (below_alloc (Below.refl _ w) o) ((blk_cell hb 0).trans rfl)
  have x1 : ∀ o, (w.alloc o).cell? ⟨g, 1, none⟩ = some v1 := fun o => pw_cell_below (below_alloc (Below.refl _ w) o) ((blk_cell hb 1).trans rfl)
  have x3 : ∀ o, (w.alloc o).cell? ⟨g, 3, none⟩ = some v3 := fun o => pw_cell_below (below_alloc (Below.refl _ w) o) ((blk_cell hb 3).trans rfl)
  clear hb
  go_enter Tryd.func23, Tryd.ntmps23
  go_wp2
  go_region
  all_goals go_wp2
  refine bodyPost_ret (results_ct rfl _ _ w.heap.size 48 #[.string ⟨#[98, 111, 114, 110]⟩, .slice (some ⟨w.heap.size + 1, 0, none⟩) 2 2, .pointer none, .slice none 0 0, .pointer none, .bool false] (0, 0) _ rfl (at0_2 _ _ _) Tryd.underlying48 rfl (by kernel_rfl)) rfl ?_
  exact ⟨rfl, rfl⟩
set_option maxRecDepth 100000 in
set_option maxHeartbeats 4000000 in
theorem form_2 (g : Nat) (v0 v1 v2 v3 v4 v5 v6 v7 : Value) (w : World) (h0 : v0 = .int .i64 2) (hb : w.heap[g]? = some (.cells #[v0, v1, v2, v3, v4, v5, v6, v7] 24 (0, 0))) : Calls Tryd.prog 23 #[.pointer (some ⟨g, 0, none⟩)] w fun e w' => e = .returned (.tuple #[.agg #[.string ⟨#[109, 101, 101, 116]⟩, .slice (some ⟨w.heap.size + 1, 0, none⟩) 5 5, .pointer none, .slice none 0 0, .pointer none, .bool false], .bool true]) ∧ w' = ((w.alloc (.cells #[.string ⟨#[109, 101, 101, 116]⟩, .slice (some ⟨w.heap.size + 1, 0, none⟩) 5 5, .pointer none, .slice none 0 0, .pointer none, .bool false] 48)).alloc (.cells #[.pointer (some ⟨g, 1, none⟩), .pointer (some ⟨g, 2, none⟩), .pointer (some ⟨g, 3, none⟩), .pointer (some ⟨g, 4, none⟩), .pointer (some ⟨g, 5, none⟩)] 45)).drew := by
  have hu24 := Tryd.underlying24
  have hu48 := Tryd.underlying48
  subst h0
  have x0 : ∀ o, (w.alloc o).cell? ⟨g, 0, none⟩ = some (.int .i64 2) := fun o => pw_cell_below (below_alloc (Below.refl _ w) o) ((blk_cell hb 0).trans rfl)
  have x1 : ∀ o, (w.alloc o).cell? ⟨g, 1, none⟩ = some v1 := fun o => pw_cell_below (below_alloc (Below.refl _ w) o) ((blk_cell hb 1).trans rfl)
  have x2 : ∀ o, (w.alloc o).cell? ⟨g, 2, none⟩ = some v2 := fun o => pw_cell_below (below_alloc (Below.refl _ w) o) ((blk_cell hb 2).trans rfl)
  have x3 : ∀ o, (w.alloc o).cell? ⟨g, 3, none⟩ = some v3 := fun o => pw_cell_below (below_alloc (Below.refl _ w) o) ((blk_cell hb 3).trans rfl)
  have x4 : ∀ o, (w.alloc o).cell? ⟨g, 4, none⟩ = some v4 := fun o => pw_cell_below (below_alloc (Below.refl _ w) o) ((blk_cell hb 4).trans rfl)
  have x5 : ∀ o, (w.alloc o).cell? ⟨g, 5, none⟩ = some v5 := fun o => pw_cell_below (below_alloc (Below.refl _ w) o) ((blk_cell hb 5).trans rfl)
  clear hb
  go_enter Tryd.func23, Tryd.ntmps23
  go_wp2
  go_region
  all_goals go_wp2
  refine bodyPost_ret (results_ct rfl _ _ w.heap.size 48 #[.string ⟨#[109, 101, 101, 116]⟩, .slice (some ⟨w.heap.size + 1, 0, none⟩) 5 5, .pointer none, .slice none 0 0, .pointer none, .bool false] (0, 0) _ rfl (at0_2 _ _ _) Tryd.underlying48 rfl (by kernel_rfl)) rfl ?_
  exact ⟨rfl, rfl⟩
set_option maxRecDepth 100000 in
set_option maxHeartbeats 4000000 in
theorem form_3 (g : Nat) (v0 v1 v2 v3 v4 v5 v6 v7 : Value) (w : World) (h0 : v0 = .int .i64 3) (hb : w.heap[g]? = some (.cells #[v0, v1, v2, v3, v4, v5, v6, v7] 24 (0, 0))) : Calls Tryd.prog 23 #[.pointer (some ⟨g, 0, none⟩)] w fun e w' => e = .returned (.tuple #[.agg #[.string ⟨#[105, 110]⟩, .slice (some ⟨w.heap.size + 1, 0, none⟩) 2 2, .pointer (some ⟨g, 6, none⟩), .slice none 0 0, .pointer none, .bool false], .bool true]) ∧ w' = ((w.alloc (.cells #[.string ⟨#[105, 110]⟩, .slice (some ⟨w.heap.size + 1, 0, none⟩) 2 2, .pointer (some ⟨g, 6, none⟩), .slice none 0 0, .pointer none, .bool false] 48)).alloc (.cells #[.pointer (some ⟨g, 3, none⟩), .pointer (some ⟨g, 4, none⟩)] 45)).drew := by
  have hu24 := Tryd.underlying24
  have hu48 := Tryd.underlying48
  subst h0
  have x0 : ∀ o, (w.alloc o).cell? ⟨g, 0, none⟩ = some (.int .i64 3) := fun o => pw_cell_below (below_alloc (Below.refl _ w) o) ((blk_cell hb 0).trans rfl)
  have x3 : ∀ o, (w.alloc o).cell? ⟨g, 3, none⟩ = some v3 := fun o => pw_cell_below (below_alloc (Below.refl _ w) o) ((blk_cell hb 3).trans rfl)
  have x4 : ∀ o, (w.alloc o).cell? ⟨g, 4, none⟩ = some v4 := fun o => pw_cell_below (below_alloc (Below.refl _ w) o) ((blk_cell hb 4).trans rfl)
  have x6 : ∀ o, (w.alloc o).cell? ⟨g, 6, none⟩ = some v6 := fun o => pw_cell_below (below_alloc (Below.refl _ w) o) ((blk_cell hb 6).trans rfl)
  clear hb
  go_enter Tryd.func23, Tryd.ntmps23
  go_wp2
  go_region
  all_goals go_wp2
  refine bodyPost_ret (results_ct rfl _ _ w.heap.size 48 #[.string ⟨#[105, 110]⟩, .slice (some ⟨w.heap.size + 1, 0, none⟩) 2 2, .pointer (some ⟨g, 6, none⟩), .slice none 0 0, .pointer none, .bool false] (0, 0) _ rfl (at0_2 _ _ _) Tryd.underlying48 rfl (by kernel_rfl)) rfl ?_
  exact ⟨rfl, rfl⟩
set_option maxRecDepth 100000 in
set_option maxHeartbeats 4000000 in
theorem form_4 (g : Nat) (v0 v1 v2 v3 v4 v5 v6 v7 : Value) (w : World) (h0 : v0 = .int .i64 4) (hb : w.heap[g]? = some (.cells #[v0, v1, v2, v3, v4, v5, v6, v7] 24 (0, 0))) : Calls Tryd.prog 23 #[.pointer (some ⟨g, 0, none⟩)] w fun e w' => e = .returned (.tuple #[.agg #[.string ⟨#[111, 117, 116]⟩, .slice (some ⟨w.heap.size + 1, 0, none⟩) 2 2, .pointer (some ⟨g, 6, none⟩), .slice none 0 0, .pointer none, .bool false], .bool true]) ∧ w' = ((w.alloc (.cells #[.string ⟨#[111, 117, 116]⟩, .slice (some ⟨w.heap.size + 1, 0, none⟩) 2 2, .pointer (some ⟨g, 6, none⟩), .slice none 0 0, .pointer none, .bool false] 48)).alloc (.cells #[.pointer (some ⟨g, 1, none⟩), .pointer (some ⟨g, 2, none⟩)] 45)).drew := by
  have hu24 := Tryd.underlying24
  have hu48 := Tryd.underlying48
  subst h0
  have x0 : ∀ o, (w.alloc o).cell? ⟨g, 0, none⟩ = some (.int .i64 4) := fun o => pw_cell_below (below_alloc (Below.refl _ w) o) ((blk_cell hb 0).trans rfl)
  have x1 : ∀ o, (w.alloc o).cell? ⟨g, 1, none⟩ = some v1 := fun o => pw_cell_below (below_alloc (Below.refl _ w) o) ((blk_cell hb 1).trans rfl)
  have x2 : ∀ o, (w.alloc o).cell? ⟨g, 2, none⟩ = some v2 := fun o => pw_cell_below (below_alloc (Below.refl _ w) o) ((blk_cell hb 2).trans rfl)
  have x6 : ∀ o, (w.alloc o).cell? ⟨g, 6, none⟩ = some v6 := fun o => pw_cell_below (below_alloc (Below.refl _ w) o) ((blk_cell hb 6).trans rfl)
  clear hb
  go_enter Tryd.func23, Tryd.ntmps23
  go_wp2
  go_region
  all_goals go_wp2
  refine bodyPost_ret (results_ct rfl _ _ w.heap.size 48 #[.string ⟨#[111, 117, 116]⟩, .slice (some ⟨w.heap.size + 1, 0, none⟩) 2 2, .pointer (some ⟨g, 6, none⟩), .slice none 0 0, .pointer none, .bool false] (0, 0) _ rfl (at0_2 _ _ _) Tryd.underlying48 rfl (by kernel_rfl)) rfl ?_
  exact ⟨rfl, rfl⟩
set_option maxRecDepth 100000 in
set_option maxHeartbeats 4000000 in
theorem form_5 (g : Nat) (v0 v1 v2 v3 v4 v5 v6 v7 : Value) (w : World) (h0 : v0 = .int .i64 5) (hb : w.heap[g]? = some (.cells #[v0, v1, v2, v3, v4, v5, v6, v7] 24 (0, 0))) : Calls Tryd.prog 23 #[.pointer (some ⟨g, 0, none⟩)] w fun e w' => e = .returned (.tuple #[.agg #[.string ⟨#[101, 120, 105, 116]⟩, .slice (some ⟨w.heap.size + 1, 0, none⟩) 1 1, .pointer none, .slice none 0 0, .pointer none, .bool false], .bool true]) ∧ w' = ((w.alloc (.cells #[.string ⟨#[101, 120, 105, 116]⟩, .slice (some ⟨w.heap.size + 1, 0, none⟩) 1 1, .pointer none, .slice none 0 0, .pointer none, .bool false] 48)).alloc (.cells #[.pointer (some ⟨g, 1, none⟩)] 45)) := by
  have hu24 := Tryd.underlying24
  have hu48 := Tryd.underlying48
  subst h0
  have x0 : ∀ o, (w.alloc o).cell? ⟨g, 0, none⟩ = some (.int .i64 5) := fun o => pw_cell_below (below_alloc (Below.refl _ w) o) ((blk_cell hb 0).trans rfl)
  have x1 : ∀ o, (w.alloc o).cell? ⟨g, 1, none⟩ = some v1 := fun o => pw_cell_below (below_alloc (Below.refl _ w) o) ((blk_cell hb 1).trans rfl)
  clear hb
  go_enter Tryd.func23, Tryd.ntmps23
  go_wp2
  refine bodyPost_ret (results_ct rfl _ _ w.heap.size 48 #[.string ⟨#[101, 120, 105, 116]⟩, .slice (some ⟨w.heap.size + 1, 0, none⟩) 1 1, .pointer none, .slice none 0 0, .pointer none, .bool false] (0, 0) _ rfl (at0_2 _ _ _) Tryd.underlying48 rfl (by kernel_rfl)) rfl ?_
  exact ⟨rfl, rfl⟩
set_option maxRecDepth 100000 in
set_option maxHeartbeats 4000000 in
theorem form_6 (g : Nat) (v0 v1 v2 v3 v4 v5 v6 v7 : Value) (w : World) (h0 : v0 = .int .i64 6) (hb : w.heap[g]? = some (.cells #[v0, v1, v2, v3, v4, v5, v6, v7] 24 (0, 0))) : Calls Tryd.prog 23 #[.pointer (some ⟨g, 0, none⟩)] w fun e w' => (e = .returned (.tuple #[.agg #[.string ⟨#[116, 114, 97, 112]⟩, .slice (some ⟨w.heap.size + 1, 0, none⟩) 1 1, .pointer none, .slice (some ⟨w.heap.size + 2, 0, none⟩) 6 6, .pointer (some ⟨g, 6, none⟩), .bool false], .bool true]) ∧ w' = (((w.alloc (.cells #[.string ⟨#[116, 114, 97, 112]⟩, .slice (some ⟨w.heap.size + 1, 0, none⟩) 1 1, .pointer none, .slice (some ⟨w.heap.size + 2, 0, none⟩) 6 6, .pointer (some ⟨g, 6, none⟩), .bool false] 48)).alloc (.cells #[.pointer (some ⟨g, 1, none⟩)] 45)).alloc (.cells trapsA 9)).drew) ∨ (e = .returned (.tuple #[.agg #[.string ⟨#[116, 114, 97, 112]⟩, .slice (some ⟨w.heap.size + 2, 0, none⟩) 1 1, .pointer none, .slice (some ⟨w.heap.size + 1, 0, none⟩) 6 6, .pointer (some ⟨g, 6, none⟩), .bool false], .bool true]) ∧ w' = (((w.alloc (.cells #[.string ⟨#[116, 114, 97, 112]⟩, .slice (some ⟨w.heap.size + 2, 0, none⟩) 1 1, .pointer none, .slice (some ⟨w.heap.size + 1, 0, none⟩) 6 6, .pointer (some ⟨g, 6, none⟩), .bool false] 48)).alloc (.cells trapsA 9)).alloc (.cells #[.pointer (some ⟨g, 1, none⟩)] 45)).drew) := by
  have hu24 := Tryd.underlying24
  have hu48 := Tryd.underlying48
  subst h0
  have x0 : ∀ o, (w.alloc o).cell? ⟨g, 0, none⟩ = some (.int .i64 6) := fun o => pw_cell_below (below_alloc (Below.refl _ w) o) ((blk_cell hb 0).trans rfl)
  have x1 : ∀ o, (w.alloc o).cell? ⟨g, 1, none⟩ = some v1 := fun o => pw_cell_below (below_alloc (Below.refl _ w) o) ((blk_cell hb 1).trans rfl)
  have x6 : ∀ o, (w.alloc o).cell? ⟨g, 6, none⟩ = some v6 := fun o => pw_cell_below (below_alloc (Below.refl _ w) o) ((blk_cell hb 6).trans rfl)
  clear hb
  go_enter Tryd.func23, Tryd.ntmps23
  go_wp2
  go_region_with (go_at_call 40; refine (traps_any _).mono ?_; rintro e w' ⟨rfl, rfl⟩)
  all_goals go_wp2
  all_goals refine bodyPost_ret (results_ct rfl _ _ w.heap.size 48 _ (0, 0) _ rfl (at0_3 _ _ _ _) Tryd.underlying48 rfl (by kernel_rfl)) rfl ?_
  all_goals first | exact Or.inl ⟨rfl, rfl⟩ | exact Or.inr ⟨rfl, rfl⟩
set_option maxRecDepth 100000 in
set_option maxHeartbeats 4000000 in
theorem form_7 (g : Nat) (v0 v1 v2 v3 v4 v5 v6 v7 : Value) (w : World) (h0 : v0 = .int .i64 7) (hb : w.heap[g]? = some (.cells #[v0, v1, v2, v3, v4, v5, v6, v7] 24 (0, 0))) : Calls Tryd.prog 23 #[.pointer (some ⟨g, 0, none⟩)] w fun e w' => e = .returned (.tuple #[.agg #[.string ⟨#[115, 107, 105, 112]⟩, .slice none 0 0, .pointer none, .slice none 0 0, .pointer none, .bool false], .bool true]) ∧ w' = (w.alloc (.cells #[.string ⟨#[115, 107, 105, 112]⟩, .slice none 0 0, .pointer none, .slice none 0 0, .pointer none, .bool false] 48)) := by
  have hu24 := Tryd.underlying24
  have hu48 := Tryd.underlying48
  subst h0
  have x0 : ∀ o, (w.alloc o).cell? ⟨g, 0, none⟩ = some (.int .i64 7) := fun o => pw_cell_below (below_alloc (Below.refl _ w) o) ((blk_cell hb 0).trans rfl)
  clear hb
  go_enter Tryd.func23, Tryd.ntmps23
  go_wp2
  refine bodyPost_ret (results_ct rfl _ _ w.heap.size 48 #[.string ⟨#[115, 107, 105, 112]⟩, .slice none 0 0, .pointer none, .slice none 0 0, .pointer none, .bool false] (0, 0) _ rfl (heap_alloc_new _ _) Tryd.underlying48 rfl (by kernel_rfl)) rfl ?_
  exact ⟨rfl, rfl⟩
set_option maxRecDepth 100000 in
set_option maxHeartbeats 4000000 in
theorem form_8 (g : Nat) (v0 v1 v2 v3 v4 v5 v6 v7 : Value) (w : World) (h0 : v0 = .int .i64 8) (hb : w.heap[g]? = some (.cells #[v0, v1, v2, v3, v4, v5, v6, v7] 24 (0, 0))) : Calls Tryd.prog 23 #[.pointer (some ⟨g, 0, none⟩)] w fun e w' => e = .returned (.tuple #[.agg #[.string ⟨#[105, 100, 108, 101]⟩, .slice none 0 0, .pointer none, .slice none 0 0, .pointer none, .bool false], .bool true]) ∧ w' = (w.alloc (.cells #[.string ⟨#[105, 100, 108, 101]⟩, .slice none 0 0, .pointer none, .slice none 0 0, .pointer none, .bool false] 48)) := by
  have hu24 := Tryd.underlying24
  have hu48 := Tryd.underlying48
  subst h0
  have x0 : ∀ o, (w.alloc o).cell? ⟨g, 0, none⟩ = some (.int .i64 8) := fun o => pw_cell_below (below_alloc (Below.refl _ w) o) ((blk_cell hb 0).trans rfl)
  clear hb
  go_enter Tryd.func23, Tryd.ntmps23
  go_wp2
  refine bodyPost_ret (results_ct rfl _ _ w.heap.size 48 #[.string ⟨#[105, 100, 108, 101]⟩, .slice none 0 0, .pointer none, .slice none 0 0, .pointer none, .bool false] (0, 0) _ rfl (heap_alloc_new _ _) Tryd.underlying48 rfl (by kernel_rfl)) rfl ?_
  exact ⟨rfl, rfl⟩
set_option maxRecDepth 100000 in
set_option maxHeartbeats 4000000 in
theorem form_9 (g : Nat) (v0 v1 v2 v3 v4 v5 v6 v7 : Value) (w : World) (h0 : v0 = .int .i64 9) (hb : w.heap[g]? = some (.cells #[v0, v1, v2, v3, v4, v5, v6, v7] 24 (0, 0))) : Calls Tryd.prog 23 #[.pointer (some ⟨g, 0, none⟩)] w fun e w' => e = .returned (.tuple #[.agg #[.string ⟨#[112, 114, 111, 98, 101]⟩, .slice none 0 0, .pointer none, .slice none 0 0, .pointer none, .bool true], .bool true]) ∧ w' = (w.alloc (.cells #[.string ⟨#[112, 114, 111, 98, 101]⟩, .slice none 0 0, .pointer none, .slice none 0 0, .pointer none, .bool true] 48)) := by
  have hu24 := Tryd.underlying24
  have hu48 := Tryd.underlying48
  subst h0
  have x0 : ∀ o, (w.alloc o).cell? ⟨g, 0, none⟩ = some (.int .i64 9) := fun o => pw_cell_below (below_alloc (Below.refl _ w) o) ((blk_cell hb 0).trans rfl)
  clear hb
  go_enter Tryd.func23, Tryd.ntmps23
  go_wp2
  refine bodyPost_ret (results_ct rfl _ _ w.heap.size 48 #[.string ⟨#[112, 114, 111, 98, 101]⟩, .slice none 0 0, .pointer none, .slice none 0 0, .pointer none, .bool true] (0, 0) _ rfl (heap_alloc_new _ _) Tryd.underlying48 rfl (by kernel_rfl)) rfl ?_
  exact ⟨rfl, rfl⟩
set_option maxRecDepth 100000 in
set_option maxHeartbeats 4000000 in
theorem form_10 (g : Nat) (v0 v1 v2 v3 v4 v5 v6 v7 : Value) (w : World) (h0 : v0 = .int .i64 10) (hb : w.heap[g]? = some (.cells #[v0, v1, v2, v3, v4, v5, v6, v7] 24 (0, 0))) : Calls Tryd.prog 23 #[.pointer (some ⟨g, 0, none⟩)] w fun e w' => e = .returned (.tuple #[.agg #[.string ⟨#[114, 101, 97, 112]⟩, .slice (some ⟨w.heap.size + 1, 0, none⟩) 1 1, .pointer none, .slice none 0 0, .pointer none, .bool false], .bool true]) ∧ w' = ((w.alloc (.cells #[.string ⟨#[114, 101, 97, 112]⟩, .slice (some ⟨w.heap.size + 1, 0, none⟩) 1 1, .pointer none, .slice none 0 0, .pointer none, .bool false] 48)).alloc (.cells #[.pointer (some ⟨g, 1, none⟩)] 45)) := by
  have hu24 := Tryd.underlying24
  have hu48 := Tryd.underlying48
  subst h0
  have x0 : ∀ o, (w.alloc o).cell? ⟨g, 0, none⟩ = some (.int .i64 10) := fun o => pw_cell_below (below_alloc (Below.refl _ w) o) ((blk_cell hb 0).trans rfl)
  have x1 : ∀ o, (w.alloc o).cell? ⟨g, 1, none⟩ = some v1 := fun o => pw_cell_below (below_alloc (Below.refl _ w) o) ((blk_cell hb 1).trans rfl)
  clear hb
  go_enter Tryd.func23, Tryd.ntmps23
  go_wp2
  refine bodyPost_ret (results_ct rfl _ _ w.heap.size 48 #[.string ⟨#[114, 101, 97, 112]⟩, .slice (some ⟨w.heap.size + 1, 0, none⟩) 1 1, .pointer none, .slice none 0 0, .pointer none, .bool false] (0, 0) _ rfl (at0_2 _ _ _) Tryd.underlying48 rfl (by kernel_rfl)) rfl ?_
  exact ⟨rfl, rfl⟩
set_option maxRecDepth 100000 in
set_option maxHeartbeats 4000000 in
theorem form_11 (g : Nat) (v0 v1 v2 v3 v4 v5 v6 v7 : Value) (w : World) (h0 : v0 = .int .i64 11) (hb : w.heap[g]? = some (.cells #[v0, v1, v2, v3, v4, v5, v6, v7] 24 (0, 0))) : Calls Tryd.prog 23 #[.pointer (some ⟨g, 0, none⟩)] w fun e w' => (e = .returned (.tuple #[.agg #[.string ⟨#[115, 112, 101, 110, 116]⟩, .slice (some ⟨w.heap.size + 1, 0, none⟩) 1 1, .pointer none, .slice (some ⟨w.heap.size + 2, 0, none⟩) 7 7, .pointer (some ⟨g, 6, none⟩), .bool false], .bool true]) ∧ w' = (((w.alloc (.cells #[.string ⟨#[115, 112, 101, 110, 116]⟩, .slice (some ⟨w.heap.size + 1, 0, none⟩) 1 1, .pointer none, .slice (some ⟨w.heap.size + 2, 0, none⟩) 7 7, .pointer (some ⟨g, 6, none⟩), .bool false] 48)).alloc (.cells #[.pointer (some ⟨g, 1, none⟩)] 45)).alloc (.cells countersA 9)).drew) ∨ (e = .returned (.tuple #[.agg #[.string ⟨#[115, 112, 101, 110, 116]⟩, .slice (some ⟨w.heap.size + 2, 0, none⟩) 1 1, .pointer none, .slice (some ⟨w.heap.size + 1, 0, none⟩) 7 7, .pointer (some ⟨g, 6, none⟩), .bool false], .bool true]) ∧ w' = (((w.alloc (.cells #[.string ⟨#[115, 112, 101, 110, 116]⟩, .slice (some ⟨w.heap.size + 2, 0, none⟩) 1 1, .pointer none, .slice (some ⟨w.heap.size + 1, 0, none⟩) 7 7, .pointer (some ⟨g, 6, none⟩), .bool false] 48)).alloc (.cells countersA 9)).alloc (.cells #[.pointer (some ⟨g, 1, none⟩)] 45)).drew) := by
  have hu24 := Tryd.underlying24
  have hu48 := Tryd.underlying48
  subst h0
  have x0 : ∀ o, (w.alloc o).cell? ⟨g, 0, none⟩ = some (.int .i64 11) := fun o => pw_cell_below (below_alloc (Below.refl _ w) o) ((blk_cell hb 0).trans rfl)
  have x1 : ∀ o, (w.alloc o).cell? ⟨g, 1, none⟩ = some v1 := fun o => pw_cell_below (below_alloc (Below.refl _ w) o) ((blk_cell hb 1).trans rfl)
  have x6 : ∀ o, (w.alloc o).cell? ⟨g, 6, none⟩ = some v6 := fun o => pw_cell_below (below_alloc (Below.refl _ w) o) ((blk_cell hb 6).trans rfl)
  clear hb
  go_enter Tryd.func23, Tryd.ntmps23
  go_wp2
  go_region_with (go_at_call 41; refine (counters_any _).mono ?_; rintro e w' ⟨rfl, rfl⟩)
  all_goals go_wp2
  all_goals refine bodyPost_ret (results_ct rfl _ _ w.heap.size 48 _ (0, 0) _ rfl (at0_3 _ _ _ _) Tryd.underlying48 rfl (by kernel_rfl)) rfl ?_
  all_goals first | exact Or.inl ⟨rfl, rfl⟩ | exact Or.inr ⟨rfl, rfl⟩
set_option maxRecDepth 100000 in
set_option maxHeartbeats 4000000 in
theorem form_no (g : Nat) (k : Int) (w : World) (hk : k < 1 ∨ 11 < k) (hb : w.cell? ⟨g, 0, none⟩ = some (.int .i64 k)) : Calls Tryd.prog 23 #[.pointer (some ⟨g, 0, none⟩)] w fun e w' => e = .returned (.tuple #[.agg #[.string ⟨#[]⟩, .slice none 0 0, .pointer none, .slice none 0 0, .pointer none, .bool false], .bool false]) ∧ w' = w.alloc (.cells #[.string ⟨#[]⟩, .slice none 0 0, .pointer none, .slice none 0 0, .pointer none, .bool false] 48) := by
  have hu24 := Tryd.underlying24
  have hu48 := Tryd.underlying48
  have x0 : ∀ o, (w.alloc o).cell? ⟨g, 0, none⟩ = some (.int .i64 k) := fun o => pw_cell_below (below_alloc (Below.refl _ w) o) hb
  have k1 : (k == 1) = false := by simp; omega
  have k2 : (k == 2) = false := by simp; omega
  have k3 : (k == 3) = false := by simp; omega
  have k4 : (k == 4) = false := by simp; omega
  have k5 : (k == 5) = false := by simp; omega
  have k6 : (k == 6) = false := by simp; omega
  have k7 : (k == 7) = false := by simp; omega
  have k8 : (k == 8) = false := by simp; omega
  have k9 : (k == 9) = false := by simp; omega
  have k10 : (k == 10) = false := by simp; omega
  have k11 : (k == 11) = false := by simp; omega
  clear hb hk
  go_enter Tryd.func23, Tryd.ntmps23
  go_wp2
  refine bodyPost_ret (results_ct rfl _ _ w.heap.size 48 #[.string ⟨#[]⟩, .slice none 0 0, .pointer none, .slice none 0 0, .pointer none, .bool false] (0, 0) _ rfl (heap_alloc_new _ _) Tryd.underlying48 rfl (by kernel_rfl)) rfl ?_
  exact ⟨rfl, rfl⟩
end Go.Proofs.YtiapfhlipoomaaaDoor.Given
end
section
namespace Go.Proofs
open Go.Shelf
def Tryd.lays169_ren : Go.Shelf.Ren := ⟨fun | 169 => 34 | n => n, fun | 70 => 58 | 9 => 9 | 0 => 0 | 72 => 61 | 37 => 59 | 127 => 74 | 3 => 3 | 5 => 5 | n => n, fun | n => n⟩
theorem Tryd.lays169 : Go.Proofs.Lays.n169 Tryd.prog Tryd.lays169_ren := {
  mixed := by kernel_rfl
  f169 := Tryd.func34.trans (congrArg some (by kernel_rfl))
  t0 := Tryd.underlying0
  a0 := Tryd.isAgg0
  z0 := Tryd.sizeOf0
  v0 := Tryd.zeroValue0
  t3 := Tryd.underlying3
  a3 := Tryd.isAgg3
  z3 := Tryd.sizeOf3
  v3 := Tryd.zeroValue3
  t9 := Tryd.underlying9
  a9 := Tryd.isAgg9
  z9 := Tryd.sizeOf9
  v9 := Tryd.zeroValue9
  t37 := Tryd.underlying59
  a37 := Tryd.isAgg59
  z37 := Tryd.sizeOf59
  v37 := Tryd.zeroValue59
  t70 := Tryd.underlying58
  a70 := Tryd.isAgg58
  z70 := Tryd.sizeOf58
  v70 := Tryd.zeroValue58
  t72 := Tryd.underlying61
  a72 := Tryd.isAgg61
  z72 := Tryd.sizeOf61
  v72 := Tryd.zeroValue61
  t127 := Tryd.underlying74
  a127 := Tryd.isAgg74
  z127 := Tryd.sizeOf74
  v127 := Tryd.zeroValue74 }
theorem Tryd.Builder_Extra_169 : Builder.Extra Tryd.prog Tryd.lays169_ren := {
  sizeBuilder := by kernel_rfl
  liesBuilder := by kernel_rfl
  t5 := Tryd.underlying5
  a5 := Tryd.isAgg5
  z5 := Tryd.sizeOf5
  v5 := Tryd.zeroValue5
  infoByte := by kernel_rfl
  cellsByte := by kernel_rfl
  sizeByte := by kernel_rfl
  neB5 := by decide }
open Go.RowKit in
theorem Tryd.Builder_String_any (B b : Nat) (l : List UInt8) (w : World) (h : Lib.IsBuilder 61 5 B b (Lib.byteCells l) w) (hBw : B ≤ w.heap.size) :
    Calls Tryd.prog 34 #[.pointer (some ⟨b, 0, none⟩)] w fun e w' => e = .returned (.string ⟨l.toArray⟩) ∧ Below B w w' := Any.Builder_String_any Tryd.lays169 Tryd.Builder_Extra_169 B b l w h hBw
def Tryd.lays156_ren : Go.Shelf.Ren := ⟨fun | 156 => 45 | 165 => 55 | 166 => 44 | 169 => 34 | 240 => 54 | 241 => 65 | 276 => 64 | 277 => 75 | n => n, fun | 31 => 46 | 9 => 9 | 3 => 3 | 4 => 4 | 0 => 0 | 20 => 20 | 72 => 61 | 76 => 70 | 70 => 58 | 37 => 59 | 75 => 69 | 127 => 74 | 164 => 92 | 5 => 5 | 80 => 63 | n => n, fun | n => n⟩
theorem Tryd.lays156 : Go.Proofs.Lays.n156 Tryd.prog Tryd.lays156_ren := {
  mixed := by kernel_rfl
  f156 := Tryd.func45.trans (congrArg some (by kernel_rfl))
  f165 := Tryd.func55.trans (congrArg some (by kernel_rfl))
  f166 := Tryd.func44.trans (congrArg some (by kernel_rfl))
  f169 := Tryd.func34.trans (congrArg some (by kernel_rfl))
  f240 := Tryd.func54.trans (congrArg some (by kernel_rfl))
  f241 := Tryd.func65.trans (congrArg some (by kernel_rfl))
  f276 := Tryd.func64.trans (congrArg some (by kernel_rfl))
  f277 := Tryd.func75.trans (congrArg some (by kernel_rfl))
  t0 := Tryd.underlying0
  a0 := Tryd.isAgg0
  z0 := Tryd.sizeOf0
  v0 := Tryd.zeroValue0
  t3 := Tryd.underlying3
  a3 := Tryd.isAgg3
  z3 := Tryd.sizeOf3
  v3 := Tryd.zeroValue3
  t4 := Tryd.underlying4
  a4 := Tryd.isAgg4
  z4 := Tryd.sizeOf4
  v4 := Tryd.zeroValue4
  t9 := Tryd.underlying9
  a9 := Tryd.isAgg9
  z9 := Tryd.sizeOf9
  v9 := Tryd.zeroValue9
  t20 := Tryd.underlying20
  a20 := Tryd.isAgg20
  z20 := Tryd.sizeOf20
  v20 := Tryd.zeroValue20
  t31 := Tryd.underlying46
  a31 := Tryd.isAgg46
  z31 := Tryd.sizeOf46
  v31 := Tryd.zeroValue46
  t37 := Tryd.underlying59
  a37 := Tryd.isAgg59
  z37 := Tryd.sizeOf59
  v37 := Tryd.zeroValue59
  t70 := Tryd.underlying58
  a70 := Tryd.isAgg58
  z70 := Tryd.sizeOf58
  v70 := Tryd.zeroValue58
  t72 := Tryd.underlying61
  a72 := Tryd.isAgg61
  z72 := Tryd.sizeOf61
  v72 := Tryd.zeroValue61
  t75 := Tryd.underlying69
  a75 := Tryd.isAgg69
  z75 := Tryd.sizeOf69
  v75 := Tryd.zeroValue69
  t76 := Tryd.underlying70
  a76 := Tryd.isAgg70
  z76 := Tryd.sizeOf70
  v76 := Tryd.zeroValue70
  t127 := Tryd.underlying74
  a127 := Tryd.isAgg74
  z127 := Tryd.sizeOf74
  v127 := Tryd.zeroValue74
  t164 := Tryd.underlying92
  a164 := Tryd.isAgg92
  z164 := Tryd.sizeOf92
  v164 := Tryd.zeroValue92 }
theorem Tryd.Builder_Extra_156 : Builder.Extra Tryd.prog Tryd.lays156_ren := {
  sizeBuilder := by kernel_rfl
  liesBuilder := by kernel_rfl
  t5 := Tryd.underlying5
  a5 := Tryd.isAgg5
  z5 := Tryd.sizeOf5
  v5 := Tryd.zeroValue5
  infoByte := by kernel_rfl
  cellsByte := by kernel_rfl
  sizeByte := by kernel_rfl
  neB5 := by decide }
open Go.RowKit in
theorem Tryd.strings_Join (bk o c : Nat) (xs : List ByteArray) (sep : ByteArray) (w : World) (hcells : ∀ (j : Nat) x, xs[j]? = some x → w.cell? ⟨bk, o + j, none⟩ = some (.string x)) (hbk : bk < w.heap.size) (hN : xs.length ≤ 140737488355328) (hcap : xs.length ≤ c) (hlen : (Lib.join (xs.map (·.data.toList)) sep.data.toList).length ≤ 140737488355328) :
    Calls Tryd.prog 45 #[.slice (some ⟨bk, o, none⟩) xs.length c, .string sep] w fun e w' => e = .returned (.string ⟨(Lib.join (xs.map (·.data.toList)) sep.data.toList).toArray⟩) ∧ Below w.heap.size w w' := Any.strings_Join Tryd.lays156 Tryd.Builder_Extra_156 bk o c xs sep w hcells hbk hN hcap hlen
def Tryd.laysM171_ren : Go.Shelf.Ren := ⟨fun | 171 => 32 | 243 => 43 | 246 => 53 | 283 => 60 | 284 => 61 | 285 => 62 | 286 => 63 | 129 => 71 | 317 => 70 | 318 => 72 | 319 => 73 | 320 => 74 | 337 => 82 | 338 => 83 | n => n, fun | 3 => 3 | 9 => 9 | 2 => 2 | 4 => 4 | 171 => 86 | 0 => 0 | 53 => 87 | 37 => 59 | 5 => 5 | 173 => 90 | 212 => 98 | 51 => 99 | 20 => 20 | 213 => 100 | 46 => 84 | 232 => 116 | 233 => 117 | n => n, fun | 17 => 0 | 18 => 2 | 19 => 3 | n => n⟩
theorem Tryd.laysM171 : Go.Proofs.LaysM.n171 Tryd.prog Tryd.laysM171_ren := {
  mixed := by kernel_rfl
  f129 := Tryd.func71.trans (congrArg some (by kernel_rfl))
  f171 := Tryd.func32.trans (congrArg some (by kernel_rfl))
  f243 := Tryd.func43.trans (congrArg some (by kernel_rfl))
  f246 := Tryd.func53.trans (congrArg some (by kernel_rfl))
  f283 := Tryd.func60.trans (congrArg some (by kernel_rfl))
  f284 := Tryd.func61.trans (congrArg some (by kernel_rfl))
  f285 := Tryd.func62.trans (congrArg some (by kernel_rfl))
  f286 := Tryd.func63.trans (congrArg some (by kernel_rfl))
  f317 := Tryd.func70.trans (congrArg some (by kernel_rfl))
  f318 := Tryd.func72.trans (congrArg some (by kernel_rfl))
  f319 := Tryd.func73.trans (congrArg some (by kernel_rfl))
  f320 := Tryd.func74.trans (congrArg some (by kernel_rfl))
  f337 := Tryd.func82.trans (congrArg some (by kernel_rfl))
  f338 := Tryd.func83.trans (congrArg some (by kernel_rfl))
  t0 := Tryd.underlying0
  a0 := Tryd.isAgg0
  z0 := Tryd.sizeOf0
  v0 := Tryd.zeroValue0
  t2 := Tryd.underlying2
  a2 := Tryd.isAgg2
  z2 := Tryd.sizeOf2
  v2 := Tryd.zeroValue2
  t3 := Tryd.underlying3
  a3 := Tryd.isAgg3
  z3 := Tryd.sizeOf3
  v3 := Tryd.zeroValue3
  t4 := Tryd.underlying4
  a4 := Tryd.isAgg4
  z4 := Tryd.sizeOf4
  v4 := Tryd.zeroValue4
  t5 := Tryd.underlying5
  a5 := Tryd.isAgg5
  z5 := Tryd.sizeOf5
  v5 := Tryd.zeroValue5
  t9 := Tryd.underlying9
  a9 := Tryd.isAgg9
  z9 := Tryd.sizeOf9
  v9 := Tryd.zeroValue9
  t20 := Tryd.underlying20
  a20 := Tryd.isAgg20
  z20 := Tryd.sizeOf20
  v20 := Tryd.zeroValue20
  t37 := Tryd.underlying59
  a37 := Tryd.isAgg59
  z37 := Tryd.sizeOf59
  v37 := Tryd.zeroValue59
  t46 := Tryd.underlying84
  a46 := Tryd.isAgg84
  z46 := Tryd.sizeOf84
  v46 := Tryd.zeroValue84
  t51 := Tryd.underlying99
  a51 := Tryd.isAgg99
  z51 := Tryd.sizeOf99
  v51 := Tryd.zeroValue99
  t53 := Tryd.underlying87
  a53 := Tryd.isAgg87
  z53 := Tryd.sizeOf87
  v53 := Tryd.zeroValue87
  t171 := Tryd.underlying86
  a171 := Tryd.isAgg86
  z171 := Tryd.sizeOf86
  v171 := Tryd.zeroValue86
  t173 := Tryd.underlying90
  a173 := Tryd.isAgg90
  z173 := Tryd.sizeOf90
  v173 := Tryd.zeroValue90
  t212 := Tryd.underlying98
  a212 := Tryd.isAgg98
  z212 := Tryd.sizeOf98
  v212 := Tryd.zeroValue98
  t213 := Tryd.underlying100
  a213 := Tryd.isAgg100
  z213 := Tryd.sizeOf100
  t232 := Tryd.underlying116
  a232 := Tryd.isAgg116
  z232 := Tryd.sizeOf116
  v232 := Tryd.zeroValue116
  t233 := Tryd.underlying117
  a233 := Tryd.isAgg117
  z233 := Tryd.sizeOf117
  v233 := Tryd.zeroValue117
  g17 := by kernel_rfl
  g18 := by kernel_rfl
  g19 := by kernel_rfl
  i0 := by kernel_rfl
  i2 := by kernel_rfl
  i3 := by kernel_rfl
  i4 := by kernel_rfl
  i5 := by kernel_rfl
  i9 := by kernel_rfl
  i20 := by kernel_rfl
  i37 := by kernel_rfl
  i46 := by kernel_rfl
  i51 := by kernel_rfl
  i53 := by kernel_rfl
  i171 := by kernel_rfl
  i173 := by kernel_rfl
  i212 := by kernel_rfl
  i232 := by kernel_rfl
  i233 := by kernel_rfl
  m17 := by kernel_rfl
  m18 := by kernel_rfl
  m19 := by kernel_rfl }
open Go.RowKit Go.Sort Go.Lib in
theorem Tryd.strconv_Itoa (n : Int) (h0 : -9223372036854775808 ≤ n) (h1 : n ≤ 9223372036854775807) (w : World) (htab : Lib.TabIs Tryd.prog w "internal/strconv.uint64pow10" .u64 Lib.pow10Tab) :
    Calls Tryd.prog 32 #[.int .i64 n] w fun e w' => e = .returned (.string ⟨(Lib.itoa n).toArray⟩) ∧ ∃ k os, w' = grow (w.drewN k) os := Any.strconv_Itoa Tryd.laysM171 n h0 h1 w htab
def Tryd.laysC172_ren : Go.Shelf.Ren := ⟨fun | 172 => 69 | 244 => 80 | 245 => 81 | 247 => 89 | 279 => 90 | 280 => 91 | 281 => 92 | 282 => 93 | 287 => 96 | 316 => 97 | 171 => 32 | 205 => 98 | 321 => 99 | 322 => 100 | 243 => 43 | 246 => 53 | 283 => 60 | 284 => 61 | 285 => 62 | 286 => 63 | 129 => 71 | 317 => 70 | 318 => 72 | 319 => 73 | 320 => 74 | 337 => 82 | 338 => 83 | n => n, fun | 9 => 9 | 3 => 3 | 75 => 69 | 76 => 70 | 4 => 4 | 5 => 5 | 167 => 110 | 37 => 59 | 0 => 0 | 85 => 111 | 2 => 2 | 168 => 113 | 53 => 87 | 175 => 124 | 46 => 84 | 210 => 128 | 127 => 74 | 145 => 134 | 143 => 132 | 21 => 21 | 171 => 86 | 173 => 90 | 212 => 98 | 51 => 99 | 20 => 20 | 213 => 100 | 232 => 116 | 233 => 117 | 80 => 63 | n => n, fun | 15 => 6 | 16 => 7 | 17 => 0 | 18 => 2 | 19 => 3 | n => n⟩
theorem Tryd.laysC172 : Go.Proofs.LaysC.n172 Tryd.prog Tryd.laysC172_ren := {
  mixed := by kernel_rfl
  f129 := Tryd.func71.trans (congrArg some (by kernel_rfl))
  f171 := Tryd.func32.trans (congrArg some (by kernel_rfl))
  f172 := Tryd.func69.trans (congrArg some (by kernel_rfl))
  f205 := Tryd.func98.trans (congrArg some (by kernel_rfl))
  f243 := Tryd.func43.trans (congrArg some (by kernel_rfl))
  f244 := Tryd.func80.trans (congrArg some (by kernel_rfl))
  f245 := Tryd.func81.trans (congrArg some (by kernel_rfl))
  f246 := Tryd.func53.trans (congrArg some (by kernel_rfl))
  f247 := Tryd.func89.trans (congrArg some (by kernel_rfl))
  f279 := Tryd.func90.trans (congrArg some (by kernel_rfl))
  f280 := Tryd.func91.trans (congrArg some (by kernel_rfl))
  f281 := Tryd.func92.trans (congrArg some (by kernel_rfl))
  f282 := Tryd.func93.trans (congrArg some (by kernel_rfl))
  f283 := Tryd.func60.trans (congrArg some (by kernel_rfl))
  f284 := Tryd.func61.trans (congrArg some (by kernel_rfl))
  f285 := Tryd.func62.trans (congrArg some (by kernel_rfl))
  f286 := Tryd.func63.trans (congrArg some (by kernel_rfl))
  f287 := Tryd.func96.trans (congrArg some (by kernel_rfl))
  f316 := Tryd.func97.trans (congrArg some (by kernel_rfl))
  f317 := Tryd.func70.trans (congrArg some (by kernel_rfl))
  f318 := Tryd.func72.trans (congrArg some (by kernel_rfl))
  f319 := Tryd.func73.trans (congrArg some (by kernel_rfl))
  f320 := Tryd.func74.trans (congrArg some (by kernel_rfl))
  f321 := Tryd.func99.trans (congrArg some (by kernel_rfl))
  f322 := Tryd.func100.trans (congrArg some (by kernel_rfl))
  f337 := Tryd.func82.trans (congrArg some (by kernel_rfl))
  f338 := Tryd.func83.trans (congrArg some (by kernel_rfl))
  t0 := Tryd.underlying0
  a0 := Tryd.isAgg0
  z0 := Tryd.sizeOf0
  v0 := Tryd.zeroValue0
  t2 := Tryd.underlying2
  a2 := Tryd.isAgg2
  z2 := Tryd.sizeOf2
  v2 := Tryd.zeroValue2
  t3 := Tryd.underlying3
  a3 := Tryd.isAgg3
  z3 := Tryd.sizeOf3
  v3 := Tryd.zeroValue3
  t4 := Tryd.underlying4
  a4 := Tryd.isAgg4
  z4 := Tryd.sizeOf4
  v4 := Tryd.zeroValue4
  t5 := Tryd.underlying5
  a5 := Tryd.isAgg5
  z5 := Tryd.sizeOf5
  v5 := Tryd.zeroValue5
  t9 := Tryd.underlying9
  a9 := Tryd.isAgg9
  z9 := Tryd.sizeOf9
  v9 := Tryd.zeroValue9
  t20 := Tryd.underlying20
  a20 := Tryd.isAgg20
  z20 := Tryd.sizeOf20
  v20 := Tryd.zeroValue20
  t21 := Tryd.underlying21
  a21 := Tryd.isAgg21
  z21 := Tryd.sizeOf21
  v21 := Tryd.zeroValue21
  t37 := Tryd.underlying59
  a37 := Tryd.isAgg59
  z37 := Tryd.sizeOf59
  v37 := Tryd.zeroValue59
  t46 := Tryd.underlying84
  a46 := Tryd.isAgg84
  z46 := Tryd.sizeOf84
  v46 := Tryd.zeroValue84
  t51 := Tryd.underlying99
  a51 := Tryd.isAgg99
  z51 := Tryd.sizeOf99
  v51 := Tryd.zeroValue99
  t53 := Tryd.underlying87
  a53 := Tryd.isAgg87
  z53 := Tryd.sizeOf87
  v53 := Tryd.zeroValue87
  t75 := Tryd.underlying69
  a75 := Tryd.isAgg69
  z75 := Tryd.sizeOf69
  v75 := Tryd.zeroValue69
  t76 := Tryd.underlying70
  a76 := Tryd.isAgg70
  z76 := Tryd.sizeOf70
  v76 := Tryd.zeroValue70
  t85 := Tryd.underlying111
  a85 := Tryd.isAgg111
  z85 := Tryd.sizeOf111
  v85 := Tryd.zeroValue111
  t127 := Tryd.underlying74
  a127 := Tryd.isAgg74
  z127 := Tryd.sizeOf74
  v127 := Tryd.zeroValue74
  t143 := Tryd.underlying132
  a143 := Tryd.isAgg132
  z143 := Tryd.sizeOf132
  v143 := Tryd.zeroValue132
  t145 := Tryd.underlying134
  a145 := Tryd.isAgg134
  z145 := Tryd.sizeOf134
  v145 := Tryd.zeroValue134
  t167 := Tryd.underlying110
  a167 := Tryd.isAgg110
  z167 := Tryd.sizeOf110
  v167 := Tryd.zeroValue110
  t168 := Tryd.underlying113
  a168 := Tryd.isAgg113
  z168 := Tryd.sizeOf113
  v168 := Tryd.zeroValue113
  t171 := Tryd.underlying86
  a171 := Tryd.isAgg86
  z171 := Tryd.sizeOf86
  v171 := Tryd.zeroValue86
  t173 := Tryd.underlying90
  a173 := Tryd.isAgg90
  z173 := Tryd.sizeOf90
  v173 := Tryd.zeroValue90
  t175 := Tryd.underlying124
  a175 := Tryd.isAgg124
  z175 := Tryd.sizeOf124
  v175 := Tryd.zeroValue124
  t210 := Tryd.underlying128
  a210 := Tryd.isAgg128
  z210 := Tryd.sizeOf128
  v210 := Tryd.zeroValue128
  t212 := Tryd.underlying98
  a212 := Tryd.isAgg98
  z212 := Tryd.sizeOf98
  v212 := Tryd.zeroValue98
  t213 := Tryd.underlying100
  a213 := Tryd.isAgg100
  z213 := Tryd.sizeOf100
  t232 := Tryd.underlying116
  a232 := Tryd.isAgg116
  z232 := Tryd.sizeOf116
  v232 := Tryd.zeroValue116
  t233 := Tryd.underlying117
  a233 := Tryd.isAgg117
  z233 := Tryd.sizeOf117
  v233 := Tryd.zeroValue117
  g15 := by kernel_rfl
  g16 := by kernel_rfl
  g17 := by kernel_rfl
  g18 := by kernel_rfl
  g19 := by kernel_rfl
  t80 := Tryd.underlying63
  a80 := Tryd.isAgg63
  z80 := Tryd.sizeOf63
  v80 := Tryd.zeroValue63
  i0 := by kernel_rfl
  i2 := by kernel_rfl
  i3 := by kernel_rfl
  i4 := by kernel_rfl
  i5 := by kernel_rfl
  i9 := by kernel_rfl
  i20 := by kernel_rfl
  i21 := by kernel_rfl
  i37 := by kernel_rfl
  i46 := by kernel_rfl
  i51 := by kernel_rfl
  i53 := by kernel_rfl
  i75 := by kernel_rfl
  i76 := by kernel_rfl
  i80 := by kernel_rfl
  i85 := by kernel_rfl
  i127 := by kernel_rfl
  i143 := by kernel_rfl
  i145 := by kernel_rfl
  i167 := by kernel_rfl
  i168 := by kernel_rfl
  i171 := by kernel_rfl
  i173 := by kernel_rfl
  i175 := by kernel_rfl
  i210 := by kernel_rfl
  i212 := by kernel_rfl
  i232 := by kernel_rfl
  i233 := by kernel_rfl
  m15 := by kernel_rfl
  m16 := by kernel_rfl
  m17 := by kernel_rfl
  m18 := by kernel_rfl
  m19 := by kernel_rfl
  c0 := by kernel_rfl
  c2 := by kernel_rfl
  c3 := by kernel_rfl
  c4 := by kernel_rfl
  c5 := by kernel_rfl
  c9 := by kernel_rfl
  c20 := by kernel_rfl
  c21 := by kernel_rfl
  c37 := by kernel_rfl
  c46 := by kernel_rfl
  c51 := by kernel_rfl
  c53 := by kernel_rfl
  c75 := by kernel_rfl
  c76 := by kernel_rfl
  c80 := by kernel_rfl
  c85 := by kernel_rfl
  c127 := by kernel_rfl
  c143 := by kernel_rfl
  c145 := by kernel_rfl
  c167 := by kernel_rfl
  c168 := by kernel_rfl
  c171 := by kernel_rfl
  c173 := by kernel_rfl
  c175 := by kernel_rfl
  c210 := by kernel_rfl
  c212 := by kernel_rfl
  c213 := by kernel_rfl
  c232 := by kernel_rfl
  c233 := by kernel_rfl }
open Go.RowKit in
theorem Tryd.strconv_Atoi_ok (s : ByteArray) (hmax : s.size ≤ 9223372036854775806) (v : Int) (h : Lib.atoiAll s.data.toList = .ok v) (w : World) :
    Calls Tryd.prog 69 #[.string s] w fun e w' => e = .returned (.tuple #[.int .i64 v, .nilIface]) ∧ (w' = w ∨ ∃ t, w' = Lib.bytesWorld w 5 t) := Any.strconv_Atoi_ok Tryd.laysC172 s hmax v h w
open Go.RowKit in
theorem Tryd.strconv_Atoi_syntax (s : ByteArray) (hlim : s.size ≤ 281474976710656) (h : Lib.atoiAll s.data.toList = Lib.atoiAll []) (ev : Value) (w : World) (hv : w.cell? ⟨6, 0, none⟩ = some ev) (hev : ev = .nilIface ∨ ∃ te pe, ev = .iface te pe) :
    Calls Tryd.prog 69 #[.string s] w fun e w' => ∃ N, e = .returned (.tuple #[.int .i64 (0), .iface 113 (.pointer (some ⟨N, 0, none⟩))]) ∧ w.heap.size ≤ N ∧ w'.heap[N]? = some (.cells #[.string ⟨#[65, 116, 111, 105]⟩, .string s, ev] 128 (0, 0)) ∧ Below w.heap.size w w' := Any.strconv_Atoi_syntax Tryd.laysC172 s hlim (h.trans rfl) ev w hv hev
open Go.RowKit in
theorem Tryd.strconv_Atoi_range (s : ByteArray) (hlim : s.size ≤ 281474976710656) (h : Lib.atoiAll s.data.toList = .range) (ev : Value) (w : World) (hv : w.cell? ⟨7, 0, none⟩ = some ev) (hev : ev = .nilIface ∨ ∃ te pe, ev = .iface te pe) :
    Calls Tryd.prog 69 #[.string s] w fun e w' => ∃ N, e = .returned (.tuple #[.int .i64 (Lib.atoiSat s.data.toList), .iface 113 (.pointer (some ⟨N, 0, none⟩))]) ∧ w.heap.size ≤ N ∧ w'.heap[N]? = some (.cells #[.string ⟨#[65, 116, 111, 105]⟩, .string s, ev] 128 (0, 0)) ∧ Below w.heap.size w w' := Any.strconv_Atoi_range Tryd.laysC172 s hlim h ev w hv hev
def Tryd.lays146_ren : Go.Shelf.Ren := ⟨fun | 146 => 48 | 221 => 57 | 268 => 66 | 138 => 67 | 143 => 68 | 195 => 76 | 197 => 77 | 218 => 78 | 219 => 79 | 260 => 84 | 217 => 85 | 225 => 86 | 224 => 87 | 267 => 88 | 266 => 94 | 314 => 95 | n => n, fun | 9 => 9 | 31 => 46 | 3 => 3 | 4 => 4 | 0 => 0 | 105 => 105 | 21 => 21 | 5 => 5 | 46 => 84 | 119 => 118 | 139 => 121 | 138 => 120 | 146 => 122 | 51 => 99 | n => n, fun | 1 => 1 | 3 => 4 | 4 => 5 | n => n⟩
theorem Tryd.lays146 : Go.Proofs.Lays.n146 Tryd.prog Tryd.lays146_ren := {
  mixed := by kernel_rfl
  f138 := Tryd.func67.trans (congrArg some (by kernel_rfl))
  f143 := Tryd.func68.trans (congrArg some (by kernel_rfl))
  f146 := Tryd.func48.trans (congrArg some (by kernel_rfl))
  f195 := Tryd.func76.trans (congrArg some (by kernel_rfl))
  f197 := Tryd.func77.trans (congrArg some (by kernel_rfl))
  f217 := Tryd.func85.trans (congrArg some (by kernel_rfl))
  f218 := Tryd.func78.trans (congrArg some (by kernel_rfl))
  f219 := Tryd.func79.trans (congrArg some (by kernel_rfl))
  f221 := Tryd.func57.trans (congrArg some (by kernel_rfl))
  f224 := Tryd.func87.trans (congrArg some (by kernel_rfl))
  f225 := Tryd.func86.trans (congrArg some (by kernel_rfl))
  f260 := Tryd.func84.trans (congrArg some (by kernel_rfl))
  f266 := Tryd.func94.trans (congrArg some (by kernel_rfl))
  f267 := Tryd.func88.trans (congrArg some (by kernel_rfl))
  f268 := Tryd.func66.trans (congrArg some (by kernel_rfl))
  f314 := Tryd.func95.trans (congrArg some (by kernel_rfl))
  t0 := Tryd.underlying0
  a0 := Tryd.isAgg0
  z0 := Tryd.sizeOf0
  v0 := Tryd.zeroValue0
  t3 := Tryd.underlying3
  a3 := Tryd.isAgg3
  z3 := Tryd.sizeOf3
  v3 := Tryd.zeroValue3
  t4 := Tryd.underlying4
  a4 := Tryd.isAgg4
  z4 := Tryd.sizeOf4
  v4 := Tryd.zeroValue4
  t5 := Tryd.underlying5
  a5 := Tryd.isAgg5
  z5 := Tryd.sizeOf5
  v5 := Tryd.zeroValue5
  t9 := Tryd.underlying9
  a9 := Tryd.isAgg9
  z9 := Tryd.sizeOf9
  v9 := Tryd.zeroValue9
  t21 := Tryd.underlying21
  a21 := Tryd.isAgg21
  z21 := Tryd.sizeOf21
  v21 := Tryd.zeroValue21
  t31 := Tryd.underlying46
  a31 := Tryd.isAgg46
  z31 := Tryd.sizeOf46
  v31 := Tryd.zeroValue46
  t46 := Tryd.underlying84
  a46 := Tryd.isAgg84
  z46 := Tryd.sizeOf84
  v46 := Tryd.zeroValue84
  t51 := Tryd.underlying99
  a51 := Tryd.isAgg99
  z51 := Tryd.sizeOf99
  v51 := Tryd.zeroValue99
  t105 := Tryd.underlying105
  a105 := Tryd.isAgg105
  z105 := Tryd.sizeOf105
  v105 := Tryd.zeroValue105
  t119 := Tryd.underlying118
  a119 := Tryd.isAgg118
  z119 := Tryd.sizeOf118
  t138 := Tryd.underlying120
  a138 := Tryd.isAgg120
  z138 := Tryd.sizeOf120
  v138 := Tryd.zeroValue120
  t139 := Tryd.underlying121
  a139 := Tryd.isAgg121
  z139 := Tryd.sizeOf121
  v139 := Tryd.zeroValue121
  t146 := Tryd.underlying122
  a146 := Tryd.isAgg122
  z146 := Tryd.sizeOf122
  v146 := Tryd.zeroValue122
  g1 := by kernel_rfl
  g3 := by kernel_rfl
  g4 := by kernel_rfl }
open Go.RowKit Go.Lib in
theorem Tryd.strings_Split (s sep : ByteArray) (m : Int) (w : World) (hs : s.size < 4294967281) (hm : w.cell? ⟨1, 0, none⟩ = some (.int .i64 m)) (h1 : 1 ≤ sep.size) :
    Calls Tryd.prog 48 #[.string s, .string sep] w fun e w' =>
      e = .returned (.slice (some ⟨w.heap.size, 0, none⟩) (Lib.countB s sep + 1) (Lib.countB s sep + 1)) ∧ w' = w.alloc (.cells ((Lib.splitB sep 0 (Lib.countB s sep) s).map Value.string).toArray 9) := Any.strings_Split Tryd.lays146 (by kernel_rfl) s sep m w hs hm h1
def Tryd.laysM146_ren : Go.Shelf.Ren := ⟨fun | 146 => 48 | 221 => 57 | 268 => 66 | 138 => 67 | 143 => 68 | 195 => 76 | 197 => 77 | 218 => 78 | 219 => 79 | 260 => 84 | 217 => 85 | 225 => 86 | 224 => 87 | 267 => 88 | 266 => 94 | 314 => 95 | n => n, fun | 9 => 9 | 31 => 46 | 3 => 3 | 4 => 4 | 0 => 0 | 105 => 105 | 21 => 21 | 5 => 5 | 46 => 84 | 119 => 118 | 139 => 121 | 138 => 120 | 146 => 122 | 51 => 99 | n => n, fun | 1 => 1 | 3 => 4 | 4 => 5 | n => n⟩
theorem Tryd.laysM146 : Go.Proofs.LaysM.n146 Tryd.prog Tryd.laysM146_ren := {
  mixed := by kernel_rfl
  f138 := Tryd.func67.trans (congrArg some (by kernel_rfl))
  f143 := Tryd.func68.trans (congrArg some (by kernel_rfl))
  f146 := Tryd.func48.trans (congrArg some (by kernel_rfl))
  f195 := Tryd.func76.trans (congrArg some (by kernel_rfl))
  f197 := Tryd.func77.trans (congrArg some (by kernel_rfl))
  f217 := Tryd.func85.trans (congrArg some (by kernel_rfl))
  f218 := Tryd.func78.trans (congrArg some (by kernel_rfl))
  f219 := Tryd.func79.trans (congrArg some (by kernel_rfl))
  f221 := Tryd.func57.trans (congrArg some (by kernel_rfl))
  f224 := Tryd.func87.trans (congrArg some (by kernel_rfl))
  f225 := Tryd.func86.trans (congrArg some (by kernel_rfl))
  f260 := Tryd.func84.trans (congrArg some (by kernel_rfl))
  f266 := Tryd.func94.trans (congrArg some (by kernel_rfl))
  f267 := Tryd.func88.trans (congrArg some (by kernel_rfl))
  f268 := Tryd.func66.trans (congrArg some (by kernel_rfl))
  f314 := Tryd.func95.trans (congrArg some (by kernel_rfl))
  t0 := Tryd.underlying0
  a0 := Tryd.isAgg0
  z0 := Tryd.sizeOf0
  v0 := Tryd.zeroValue0
  t3 := Tryd.underlying3
  a3 := Tryd.isAgg3
  z3 := Tryd.sizeOf3
  v3 := Tryd.zeroValue3
  t4 := Tryd.underlying4
  a4 := Tryd.isAgg4
  z4 := Tryd.sizeOf4
  v4 := Tryd.zeroValue4
  t5 := Tryd.underlying5
  a5 := Tryd.isAgg5
  z5 := Tryd.sizeOf5
  v5 := Tryd.zeroValue5
  t9 := Tryd.underlying9
  a9 := Tryd.isAgg9
  z9 := Tryd.sizeOf9
  v9 := Tryd.zeroValue9
  t21 := Tryd.underlying21
  a21 := Tryd.isAgg21
  z21 := Tryd.sizeOf21
  v21 := Tryd.zeroValue21
  t31 := Tryd.underlying46
  a31 := Tryd.isAgg46
  z31 := Tryd.sizeOf46
  v31 := Tryd.zeroValue46
  t46 := Tryd.underlying84
  a46 := Tryd.isAgg84
  z46 := Tryd.sizeOf84
  v46 := Tryd.zeroValue84
  t51 := Tryd.underlying99
  a51 := Tryd.isAgg99
  z51 := Tryd.sizeOf99
  v51 := Tryd.zeroValue99
  t105 := Tryd.underlying105
  a105 := Tryd.isAgg105
  z105 := Tryd.sizeOf105
  v105 := Tryd.zeroValue105
  t119 := Tryd.underlying118
  a119 := Tryd.isAgg118
  z119 := Tryd.sizeOf118
  t138 := Tryd.underlying120
  a138 := Tryd.isAgg120
  z138 := Tryd.sizeOf120
  v138 := Tryd.zeroValue120
  t139 := Tryd.underlying121
  a139 := Tryd.isAgg121
  z139 := Tryd.sizeOf121
  v139 := Tryd.zeroValue121
  t146 := Tryd.underlying122
  a146 := Tryd.isAgg122
  z146 := Tryd.sizeOf122
  v146 := Tryd.zeroValue122
  g1 := by kernel_rfl
  g3 := by kernel_rfl
  g4 := by kernel_rfl
  i0 := by kernel_rfl
  i3 := by kernel_rfl
  i4 := by kernel_rfl
  i5 := by kernel_rfl
  i9 := by kernel_rfl
  i21 := by kernel_rfl
  i31 := by kernel_rfl
  i46 := by kernel_rfl
  i51 := by kernel_rfl
  i105 := by kernel_rfl
  i138 := by kernel_rfl
  i139 := by kernel_rfl
  i146 := by kernel_rfl
  m1 := by kernel_rfl
  s1_3 := fun w h => Go.Proofs.cell_of_shapedOpen_int (zero := #[.int .i64 0]) (t := 3) h (of_decide_eq_true (by kernel_rfl)) (by kernel_rfl) rfl (by kernel_rfl) (by kernel_rfl) Tryd.underlying3
  m3 := by kernel_rfl
  m4 := by kernel_rfl }
end Go.Proofs
end
section
namespace Go.Proofs.YtiapfhlipoomaaaDoor.Given
open Go.RowKit Go.Proofs.YtiapfhlipoomaaaDoorW.PrintWords Go.Proofs.YtiapfhlipoomaaaDoorW.PrintLast Go.Proofs.YtiapfhlipoomaaaDoorW.PrintMore Go.Proofs.YtiapfhlipoomaaaDoor.Print
set_option linter.unusedVariables false
set_option linter.unusedSimpArgs false
def LW (w : World) : Prop := Lib.TabIs Tryd.prog w "internal/strconv.uint64pow10" IntKind.u64 Lib.pow10Tab ∧ (∃ m, w.cell? ⟨1, 0, none⟩ = some (.int .i64 m)) ∧
  (∃ ev, w.cell? ⟨6, 0, none⟩ = some ev ∧ (ev = Value.nilIface ∨ ∃ te pe, ev = Value.iface te pe)) ∧ ∃ ev, w.cell? ⟨7, 0, none⟩ = some ev ∧ (ev = Value.nilIface ∨ ∃ te pe, ev = Value.iface te pe)
theorem LW.below {w w' : World} (h : LW w) (hb : Below w.heap.size w w') : LW w' := by
  obtain ⟨h1, ⟨m, h2⟩, ⟨e, h3, h3'⟩, ⟨e', h4, h4'⟩⟩ := h
  exact ⟨Lib.tabBelow_of_tabIs h1 w' hb, ⟨m, pw_cell_below hb h2⟩, ⟨e, pw_cell_below hb h3, h3'⟩, ⟨e', pw_cell_below hb h4, h4'⟩⟩
theorem below_grow (w : World) (k : Nat) (os : Array Obj) : Below w.heap.size w («Sort».grow (w.drewN k) os) :=
  ⟨rfl, rfl, rfl, by simp [«Sort».grow, World.drewN], fun j hj => by simp only [«Sort».grow]; exact Array.getElem?_append_left (by simpa [World.drewN] using hj)⟩
def itoaB (n : Int) : ByteArray := ⟨(Lib.itoa n).toArray⟩
theorem itoa_any (n : Int) (h : -9223372036854775808 ≤ n ∧ n ≤ 9223372036854775807) (w : World) (hL : LW w) : Calls Tryd.prog 32 #[.int .i64 n] w fun e w' => e = .returned (.string (itoaB n)) ∧ Below w.heap.size w w' := by
  refine (Tryd.strconv_Itoa n h.1 h.2 w hL.1).mono ?_
  rintro e w' ⟨rfl, k, os, rfl⟩
  exact ⟨rfl, below_grow w k os⟩
theorem size_append (a b : ByteArray) : (a ++ b).size = a.size + b.size := ByteArray.size_append
def KeptOther (w w' : World) : Prop := ∀ (g : Nat) (cs : Array Value) (T : TypeId), T ≠ 5 → T ≠ 61 → w.heap[g]? = some (.cells cs T (0, 0)) → w'.heap[g]? = some (.cells cs T (0, 0))
theorem infoB : (Tryd.prog.info? 61).map (·.size) = some 2 := by kernel_rfl
theorem liesB : liesAt Tryd.prog Tryd.prog.depth 61 (2 / Tryd.prog.cellsOf 61) 0 61 1 = true := by kernel_rfl
set_option maxRecDepth 100000 in
set_option maxHeartbeats 1000000 in
theorem check_used (b : Nat) (w : World) (c0 : w.cell? ⟨b, 0, none⟩ = some (.pointer (some ⟨b, 0, none⟩))) :
    Calls Tryd.prog 54 #[.pointer (some ⟨b, 0, none⟩)] w fun e w' => e = .returned (.tuple #[]) ∧ w' = w := by
  obtain ⟨j, hj, _⟩ := Option.map_eq_some_iff.1 infoB
  go_enter Tryd.func54, Tryd.ntmps54
  go_wp2
  rw [Lib.run_neq_ptr_same w _ Tryd.underlying58 hj]
  go_wp2
  go_end0
  exact ⟨rfl, rfl⟩
set_option maxRecDepth 100000 in
set_option maxHeartbeats 1000000 in
theorem check_fresh (b : Nat) (w : World) (c0 : w.cell? ⟨b, 0, none⟩ = some (.pointer none)) (hsh : w.shape? b = some (61, 2)) (hfz : w.frozen? ⟨b, 0, none⟩ = false) :
    Calls Tryd.prog 54 #[.pointer (some ⟨b, 0, none⟩)] w fun e w' => e = .returned (.tuple #[]) ∧ w' = w.setCell ⟨b, 0, none⟩ (.pointer (some ⟨b, 0, none⟩)) := by
  obtain ⟨j, hj, hjs⟩ := Option.map_eq_some_iff.1 infoB
  go_enter Tryd.func54, Tryd.ntmps54
  go_wp2
  rw [Lib.run_to_unsafe w ⟨b, 0, none⟩ Tryd.underlying58 Tryd.underlying92 hj (by rw [hjs]; decide) hsh (Nat.zero_lt_succ 1)]
  simp only [Result.andThen]
  rw [Oper.upon_value]
  go_wp2
  rw [run_callFunc_extern Tryd.func64 (by kernel_rfl) (by kernel_rfl) (by kernel_rfl) (e := Extern.AbiNoEscape.same) (by kernel_rfl)]
  rw [Lib.run_noEscape]
  simp only [Result.andThen]
  rw [Oper.upon_value]
  go_wp2
  rw [Lib.run_from_unsafe w ⟨b, 0, none⟩ Tryd.underlying92 Tryd.underlying58 hj hsh liesB]
  simp only [Result.andThen]
  rw [Oper.upon_value]
  go_wp2
  go_end0
  exact ⟨rfl, rfl⟩
theorem check_any (B b : Nat) (bs : List Value) (w : World) (h : Lib.IsBuilder 61 5 B b bs w) :
    Calls Tryd.prog 54 #[.pointer (some ⟨b, 0, none⟩)] w fun e w' => e = .returned (.tuple #[]) ∧ (Lib.BuilderAt 61 5 B b (.pointer (some ⟨b, 0, none⟩)) bs w' ∧ Below B w w' ∧ KeptOther w w') := by
  rcases h with h | h
  · refine (check_fresh b w h.cell0 h.shape h.frozen0).mono ?_
    rintro e w' ⟨rfl, rfl⟩
    obtain ⟨_, _, hbk, _, _⟩ := id h
    exact ⟨rfl, h.used _, (Below.refl B w).setCell (p := ⟨b, 0, none⟩) h.1 _, fun g cs T _ hT hg => blk_far hg (fun e => blk_ne hg hbk hT e) _⟩
  · refine (check_used b w h.cell0).mono ?_
    rintro e w' ⟨rfl, rfl⟩
    exact ⟨rfl, h, Below.refl _ _, fun _ _ _ _ _ hg => hg⟩
theorem infoU8 : (Tryd.prog.info? 5).map (fun i => (i.zero, i.size, i.bytes)) = some (some (.int .u8 0), 1, 1) := by kernel_rfl
set_option maxRecDepth 100000 in
set_option maxHeartbeats 2000000 in
theorem write_any (B b : Nat) (bs : List Value) (s : ByteArray) (w : World) (h : Lib.IsBuilder 61 5 B b bs w) (hlen : bs.length + s.size ≤ 140737488355328) (hBw : B ≤ w.heap.size) :
    Calls Tryd.prog 44 #[.pointer (some ⟨b, 0, none⟩), .string s] w fun e w' => e = .returned (.tuple #[.int .i64 s.size, .nilIface]) ∧ (Lib.BuilderAt 61 5 B b (.pointer (some ⟨b, 0, none⟩)) (bs ++ Lib.strCells s) w' ∧ Below B w w' ∧ KeptOther w w') := by
  obtain ⟨i0, hi, hz0, hz1, hz2⟩ := info_parts infoU8
  go_enter Tryd.func44, Tryd.ntmps44
  go_wp2_with (go_at_call 54; refine (check_any B b bs _ h).mono ?_)
  rintro e w1 ⟨rfl, h1, hb1, hk1⟩
  obtain ⟨hB, v, hbk, hown, hne⟩ := h1
  have c0 : w1.cell? ⟨b, 0, none⟩ = some (.pointer (some ⟨b, 0, none⟩)) := by rw [Lib.cell_of_heap hbk]; rfl
  have c1 : w1.cell? ⟨b, 1, none⟩ = some v := by rw [Lib.cell_of_heap hbk]; rfl
  go_wp2_with (at_builtin; refine Lib.wpList_append_own_string _ rfl _ _ 59 9 rfl B 5 i0 Tryd.underlying59 Tryd.underlying9 hi hz0 hz1 hz2 _ _ _ rfl hown s rfl ?c3 ?c4 ?c5 ?_)
  case c3 => unfold maxLen; omega
  case c4 => omega
  case c5 => have := hb1.size; omega
  intro v' w2 hown' hgrow _
  have hlt : b < w1.heap.size := by
    rcases Nat.lt_or_ge b w1.heap.size with h' | h'
    · exact h'
    · simp [Array.getElem?_eq_none h'] at hbk
  have hb2 : w2.heap[b]? = some (.cells #[.pointer (some ⟨b, 0, none⟩), v] 61 (0, 0)) := by
    rw [hgrow.block b hlt (fun e => hne e.symm)]
    exact hbk
  have d0 : w2.cell? ⟨b, 0, none⟩ = some (.pointer (some ⟨b, 0, none⟩)) := by rw [Lib.cell_of_heap hb2]; rfl
  have d1 : w2.cell? ⟨b, 1, none⟩ = some v := by rw [Lib.cell_of_heap hb2]; rfl
  have f1 : w2.frozen? ⟨b, 1, none⟩ = false := Lib.frozen_of_heap hb2 1
  obtain ⟨ao, n', cap, rfl⟩ : ∃ ao n' cap, v' = .slice ao n' cap := by
    rcases hown'.2 with ⟨hv, _⟩ | ⟨g, cap, cur, hv, _⟩
    · exact ⟨_, _, _, hv⟩
    · exact ⟨_, _, _, hv⟩
  go_wp2
  go_ret2
  refine ⟨rfl, ?_, ?_, ?_⟩
  · exact Lib.BuilderAt.put (T := 61) (e := 5) hB hb2 (bs' := bs ++ Lib.strCells s) (by simpa [Lib.strCells_length] using hown') (by decide)
  · exact (hb1.grown hgrow (by have := hb1.size; omega) (fun k hk => (hown.lt k hk).1)).setCell (p := ⟨b, 1, none⟩) hB _
  · intro g cs T hT5 hT hg
    have hg1 := hk1 g cs T hT5 hT hg
    exact blk_far (blk_grown hg1 hgrow (fun e => Lib.ownBlock_ne hown hg1 hT5 e.symm)) (fun e => blk_ne hg1 hbk hT e) _
theorem builder_below {B b : Nat} {bs : List Value} {w w' : World} (h : Lib.IsBuilder 61 5 B b bs w) (hb : Below w.heap.size w w') : Lib.IsBuilder 61 5 B b bs w' := by
  have key : ∀ p, Lib.BuilderAt 61 5 B b p bs w → Lib.BuilderAt 61 5 B b p bs w' := by
    rintro p ⟨hB, v, hbk, hown, hne⟩
    refine ⟨hB, v, blk_below hbk hb, ⟨hown.1, ?_⟩, hne⟩
    rcases hown.2 with h0 | ⟨g, cap, cur, hv, hBg, hg, r⟩
    · exact .inl h0
    · exact .inr ⟨g, cap, cur, hv, hBg, blk_below hg hb, r⟩
  rcases h with h | h
  · exact .inl (key _ h)
  · exact .inr (key _ h)
theorem strCells_append (a b : ByteArray) : Lib.strCells (a ++ b) = Lib.strCells a ++ Lib.strCells b := by
  simp [Lib.strCells, Lib.byteCells]
theorem write_on (b : Nat) (acc s : ByteArray) (w : World) (h : Lib.IsBuilder 61 5 b b (Lib.strCells acc) w) (hlen : acc.size + s.size ≤ 140737488355328) :
    Calls Tryd.prog 44 #[.pointer (some ⟨b, 0, none⟩), .string s] w fun e w' => e = .returned (.tuple #[.int .i64 s.size, .nilIface]) ∧ (Lib.IsBuilder 61 5 b b (Lib.strCells (acc ++ s)) w' ∧ Below b w w' ∧ KeptOther w w') := by
  have hBw : b ≤ w.heap.size := by
    rcases h with h | h
    · exact Nat.le_of_lt h.lt
    · exact Nat.le_of_lt h.lt
  refine (write_any b b _ s w h (by rw [Lib.strCells_length]; exact hlen) hBw).mono ?_
  rintro e w' ⟨rfl, h1, h2⟩
  exact ⟨rfl, .inr (by rw [strCells_append]; exact h1), h2⟩
set_option maxRecDepth 100000 in
set_option maxHeartbeats 2000000 in
theorem byte_any (B b : Nat) (bs : List Value) (c : Int) (w : World) (h : Lib.IsBuilder 61 5 B b bs w) (hlen : bs.length + 1 ≤ 140737488355328) (hBw : B ≤ w.heap.size) :
    Calls Tryd.prog 46 #[.pointer (some ⟨b, 0, none⟩), .int .u8 c] w fun e w' => e = .returned .nilIface ∧ (Lib.BuilderAt 61 5 B b (.pointer (some ⟨b, 0, none⟩)) (bs ++ [.int .u8 c]) w' ∧ Below B w w' ∧ KeptOther w w') := by
  obtain ⟨i0, hi, hz0, hz1, hz2⟩ := info_parts infoU8
  go_enter Tryd.func46, Tryd.ntmps46
  go_wp2_with (go_at_call 54; refine (check_any B b bs _ h).mono ?_)
  rintro e w1 ⟨rfl, h1, hb1, hk1⟩
  obtain ⟨hB, v, hbk, hown, hne⟩ := h1
  have c0 : w1.cell? ⟨b, 0, none⟩ = some (.pointer (some ⟨b, 0, none⟩)) := by rw [Lib.cell_of_heap hbk]; rfl
  have c1 : w1.cell? ⟨b, 1, none⟩ = some v := by rw [Lib.cell_of_heap hbk]; rfl
  go_wp2_with (at_builtin; refine wpList_append_own _ rfl _ _ 59 rfl B 5 i0 (.int .u8 0) 1 1 Tryd.underlying59 hi hz0 hz1 hz2 rfl (by decide) _ _ _ rfl (hown.alloc _) ⟨w1.heap.size, 0, none⟩ 1 1 [.int .u8 c] rfl rfl ?c1 ?c2 ?c3 ?c4 ?c5 ?_)
  case c1 =>
    intro j u hj
    match j, hj with
    | 0, hj => simp at hj; subst hj; simp [Addr.add]
  case c2 => intro u hu; simp at hu; subst hu; rfl
  case c3 => unfold maxLen; omega
  case c4 => omega
  case c5 => have := hb1.size; simp; omega
  intro v' w2 hown' hgrow _
  have hlt : b < w1.heap.size := by
    rcases Nat.lt_or_ge b w1.heap.size with h' | h'
    · exact h'
    · simp [Array.getElem?_eq_none h'] at hbk
  have hbk' := blk_below hbk (below_alloc (Below.refl _ w1) (.cells #[.int .u8 c] 5))
  have hb2 : w2.heap[b]? = some (.cells #[.pointer (some ⟨b, 0, none⟩), v] 61 (0, 0)) := by
    rw [hgrow.block b (by simp; omega) (fun e => hne e.symm)]
    exact hbk'
  have d0 : w2.cell? ⟨b, 0, none⟩ = some (.pointer (some ⟨b, 0, none⟩)) := by rw [Lib.cell_of_heap hb2]; rfl
  have d1 : w2.cell? ⟨b, 1, none⟩ = some v := by rw [Lib.cell_of_heap hb2]; rfl
  have f1 : w2.frozen? ⟨b, 1, none⟩ = false := Lib.frozen_of_heap hb2 1
  obtain ⟨ao, n', cap, rfl⟩ : ∃ ao n' cap, v' = .slice ao n' cap := by
    rcases hown'.2 with ⟨hv, _⟩ | ⟨g, cap, cur, hv, _⟩
    · exact ⟨_, _, _, hv⟩
    · exact ⟨_, _, _, hv⟩
  go_wp2
  go_ret
  refine ⟨rfl, ?_, ?_, ?_⟩
  · exact Lib.BuilderAt.put (T := 61) (e := 5) hB hb2 (bs' := bs ++ [.int .u8 c]) (by simpa using hown') (by decide)
  · exact ((hb1.alloc (by have := hb1.size; omega) _).grown hgrow (by have := hb1.size; simp; omega) (fun k hk => (hown.lt k hk).1)).setCell (p := ⟨b, 1, none⟩) hB _
  · intro g cs T hT5 hT hg
    have hg1 := hk1 g cs T hT5 hT hg
    have hg2 := blk_below hg1 (below_alloc (Below.refl _ w1) (.cells #[.int .u8 c] 5))
    exact blk_far (blk_grown hg2 hgrow (fun e => Lib.ownBlock_ne hown hg1 hT5 e.symm)) (fun e => blk_ne hg1 hbk hT e) _
def space : ByteArray := ⟨#[32]⟩
def wordsL (s : ByteArray) : List ByteArray := Lib.splitB space 0 (Lib.countB s space) s
def numOf (t : ByteArray) : Option Int := match Lib.atoiAll t.data.toList with
  | .ok v => if (itoaB v).toList = t.toList then some v else none
  | _ => none
def numsIn : List ByteArray → Option (List Int)
  | [] => some []
  | t :: r => match numOf t, numsIn r with
    | some v, some l => some (v :: l)
    | _, _ => none
theorem split_any (s : ByteArray) (n : Nat) (hn : Lib.countB s space = n) (w : World) (hs : s.size < 4294967281) (hL : LW w) :
    Calls Tryd.prog 48 #[.string s, .string ⟨#[32]⟩] w fun e w' => e = .returned (.slice (some ⟨w.heap.size, 0, none⟩) (n + 1 : Nat) (n + 1)) ∧ w'.heap[w.heap.size]? = some (.cells ((wordsL s).map Value.string).toArray 9 (0, 0)) ∧ Below w.heap.size w w' := by
  obtain ⟨m, hm⟩ := hL.2.1
  refine (Tryd.strings_Split s space m w hs hm (by decide)).mono ?_
  rintro e w' ⟨rfl, rfl⟩
  exact ⟨by rw [hn], blk_new _ _, below_alloc (Below.refl _ _) _⟩
theorem words_length (s : ByteArray) (n : Nat) (hn : Lib.countB s space = n) : (wordsL s).length = n + 1 := by
  rw [wordsL, hn]
  exact Lib.splitB_all space (by decide) 0 n s hn
theorem atoi_good (t : ByteArray) (v : Int) (h : numOf t = some v) (w : World) (hsz : t.size ≤ 281474976710656) :
    Calls Tryd.prog 69 #[.string t] w fun e w' => e = .returned (.tuple #[.int .i64 v, .nilIface]) ∧ Below w.heap.size w w' := by
  unfold numOf at h
  split at h
  · rename_i v' hv
    split at h
    · injection h with h
      subst h
      refine (Tryd.strconv_Atoi_ok t (by omega) v' hv w).mono ?_
      rintro e w' ⟨rfl, h | ⟨u, h⟩⟩
      · exact ⟨rfl, h ▸ Below.refl _ _⟩
      · exact ⟨rfl, h ▸ bytes_below (Below.refl _ _) (Nat.le_refl _) 5 u⟩
    · cases h
  · cases h
theorem numOf_some {t : ByteArray} {v : Int} (h : numOf t = some v) : (-9223372036854775808 ≤ v ∧ v ≤ 9223372036854775807) ∧ (itoaB v).toList = t.toList := by
  unfold numOf at h
  split at h
  · rename_i v' hv
    split at h
    · rename_i hq
      injection h with h
      subst h
      exact ⟨Lib.atoiAll_bounds hv, hq⟩
    · cases h
  · cases h
theorem splitB_size (sep : ByteArray) : ∀ (k : Nat) (s t : ByteArray), t ∈ Lib.splitB sep 0 k s → t.size ≤ s.size
  | 0, s, t, h => by
    simp only [Lib.splitB, List.mem_singleton] at h
    exact h ▸ Nat.le_refl _
  | k + 1, s, t, h => by
    rw [Lib.splitB] at h
    split at h
    · simp only [List.mem_singleton] at h
      exact h ▸ Nat.le_refl _
    · rcases List.mem_cons.1 h with rfl | h
      · rw [ByteArray.size_extract]; omega
      · refine Nat.le_trans (splitB_size sep k _ t h) ?_
        rw [ByteArray.size_extract]; omega
theorem word_size (s t : ByteArray) (h : t ∈ wordsL s) : t.size ≤ s.size := splitB_size _ _ s t h
theorem count_le (s : ByteArray) : Lib.countB s space ≤ s.size := Lib.countB_le space (by decide) s.size s (Nat.le_refl _)
theorem atoi_bad (t : ByteArray) (h : numOf t = none) (w : World) (hL : LW w) (hsz : t.size ≤ 281474976710656) :
    Calls Tryd.prog 69 #[.string t] w fun e w' => ∃ (v : Int) (er : Value), e = .returned (.tuple #[.int .i64 v, er]) ∧ ((∃ a, er = .iface 113 (.pointer (some a))) ∨ er = .nilIface ∧ (-9223372036854775808 ≤ v ∧ v ≤ 9223372036854775807) ∧ ((itoaB v).toList == t.toList) = false) ∧ Below w.heap.size w w' := by
  unfold numOf at h
  split at h
  · rename_i v hv
    split at h
    · cases h
    · rename_i hq
      refine (Tryd.strconv_Atoi_ok t (by omega) v hv w).mono ?_
      rintro e w' ⟨rfl, h | ⟨u, h⟩⟩
      · exact ⟨v, _, rfl, .inr ⟨rfl, Lib.atoiAll_bounds hv, by simpa using hq⟩, h ▸ Below.refl _ _⟩
      · exact ⟨v, _, rfl, .inr ⟨rfl, Lib.atoiAll_bounds hv, by simpa using hq⟩, h ▸ bytes_below (Below.refl _ _) (Nat.le_refl _) 5 u⟩
  · rename_i hne
    cases hq : Lib.atoiAll t.data.toList
    · exact absurd hq (hne _)
    · obtain ⟨ev, hv, hev⟩ := hL.2.2.1
      refine (Tryd.strconv_Atoi_syntax t hsz hq ev w hv hev).mono ?_
      rintro e w' ⟨N, rfl, _, _, hb⟩
      exact ⟨_, _, rfl, .inl ⟨_, rfl⟩, hb⟩
    · obtain ⟨ev, hv, hev⟩ := hL.2.2.2
      refine (Tryd.strconv_Atoi_range t hsz hq ev w hv hev).mono ?_
      rintro e w' ⟨N, rfl, _, _, hb⟩
      exact ⟨_, _, rfl, .inl ⟨_, rfl⟩, hb⟩
end Go.Proofs.YtiapfhlipoomaaaDoor.Given
end
section
namespace Go.Proofs.YtiapfhlipoomaaaDoor.Given
open Go.RowKit Go.Proofs.YtiapfhlipoomaaaDoorW.PrintWords Go.Proofs.YtiapfhlipoomaaaDoorW.PrintLast Go.Proofs.YtiapfhlipoomaaaDoorW.PrintMore Go.Proofs.YtiapfhlipoomaaaDoor.Print
set_option linter.unusedVariables false
set_option linter.unusedSimpArgs false
def wordB : Nat → ByteArray
  | 1 => ⟨#[98, 111, 114, 110]⟩
  | 2 => ⟨#[109, 101, 101, 116]⟩
  | 3 => ⟨#[105, 110]⟩
  | 4 => ⟨#[111, 117, 116]⟩
  | 5 => ⟨#[101, 120, 105, 116]⟩
  | 6 => ⟨#[116, 114, 97, 112]⟩
  | 7 => ⟨#[115, 107, 105, 112]⟩
  | 8 => ⟨#[105, 100, 108, 101]⟩
  | 9 => ⟨#[112, 114, 111, 98, 101]⟩
  | 10 => ⟨#[114, 101, 97, 112]⟩
  | 11 => ⟨#[115, 112, 101, 110, 116]⟩
  | _ => ⟨#[]⟩
def foK : Nat → List Nat
  | 1 => [1, 3]
  | 2 => [1, 2, 3, 4, 5]
  | 3 => [3, 4]
  | 4 => [1, 2]
  | 5 => [1]
  | 6 => [1]
  | 7 => []
  | 8 => []
  | 9 => []
  | 10 => [1]
  | 11 => [1]
  | _ => []
def clsK : Nat → Nat
  | 3 => 1
  | 4 => 1
  | 6 => 2
  | 11 => 2
  | _ => 0
def liK : Nat → Bool
  | 9 => true
  | _ => false
def wsK : Nat → List ByteArray
  | 6 => [⟨#[]⟩, ⟨#[100, 105, 118, 105, 100, 101]⟩, ⟨#[105, 110, 100, 101, 120]⟩, ⟨#[102, 105, 108, 108]⟩, ⟨#[110, 105, 108]⟩, ⟨#[119, 114, 111, 110, 103]⟩]
  | 11 => [⟨#[]⟩, ⟨#[112, 114, 111, 99, 115]⟩, ⟨#[108, 105, 118, 101]⟩, ⟨#[99, 104, 97, 110, 115]⟩, ⟨#[116, 105, 99, 107, 115]⟩, ⟨#[99, 101, 108, 108, 115]⟩, ⟨#[100, 101, 112, 116, 104]⟩]
  | _ => []
def getK (x : S24) : Nat → Int
  | 1 => x.f1
  | 2 => x.f2
  | 3 => x.f3
  | 4 => x.f4
  | 5 => x.f5
  | 6 => x.f6
  | _ => x.f0
abbrev evC (x : S24) (lv : Value) : Array Value := #[.int .i64 x.f0, .int .i64 x.f1, .int .i64 x.f2, .int .i64 x.f3, .int .i64 x.f4, .int .i64 x.f5, .int .i64 x.f6, lv]
def FieldsAt (w : World) (g : Nat) (v : Value) (fo : List Nat) : Prop :=
  ∃ A, v = .slice A fo.length fo.length ∧ ∀ (j o : Nat), fo[j]? = some o → ∃ ad, A = some ad ∧ ad.block ≠ g ∧ w.cell? (ad.add j) = some (.pointer (some ⟨g, o, none⟩))
theorem FieldsAt.below {w w' : World} {g : Nat} {v : Value} {fo : List Nat} (h : FieldsAt w g v fo) (hb : Below w.heap.size w w') : FieldsAt w' g v fo := by
  obtain ⟨A, hv, hc⟩ := h
  refine ⟨A, hv, fun j o hj => ?_⟩
  obtain ⟨ad, ha, hn, hx⟩ := hc j o hj
  exact ⟨ad, ha, hn, pw_cell_below hb hx⟩
theorem fields_nil (w : World) (g : Nat) : FieldsAt w g (.slice none 0 0) [] := ⟨none, rfl, fun j o h => by simp at h⟩
theorem fields_blk {w : World} {g b : Nat} (fo : List Nat) (hn : b ≠ g) (h : w.heap[b]? = some (.cells (fo.map fun o => Value.pointer (some ⟨g, o, none⟩)).toArray 45 (0, 0))) : FieldsAt w g (.slice (some ⟨b, 0, none⟩) fo.length fo.length) fo := by
  refine ⟨_, rfl, fun j o hj => ⟨_, rfl, hn, ?_⟩⟩
  have : (⟨b, 0, none⟩ : Addr).add j = ⟨b, j, none⟩ := by simp [Addr.add]; exact Eq.symm
  rw [this, blk_cell h j]
  simp [hj]
theorem at1_2 (w : World) (a b : Obj) : ((w.alloc a).alloc b).heap[w.heap.size + 1]? = some b := by
  have h := heap_alloc_new (w.alloc a) b
  rwa [show (w.alloc a).heap.size = w.heap.size + 1 from Array.size_push ..] at h
theorem at1_3 (w : World) (a b c : Obj) : (((w.alloc a).alloc b).alloc c).heap[w.heap.size + 1]? = some b := blk_below (at1_2 w a b) (below_alloc (Below.refl _ _) c)
theorem at2_3 (w : World) (a b c : Obj) : (((w.alloc a).alloc b).alloc c).heap[w.heap.size + 2]? = some c := by
  have h := heap_alloc_new ((w.alloc a).alloc b) c
  rwa [show ((w.alloc a).alloc b).heap.size = w.heap.size + 2 by rw [show ((w.alloc a).alloc b).heap = (w.heap.push a).push b from rfl, Array.size_push, Array.size_push]] at h
theorem bel1 (w : World) (a : Obj) : Below w.heap.size w (w.alloc a) := below_alloc (Below.refl _ _) a
theorem bel2 (w : World) (a b : Obj) : Below w.heap.size w ((w.alloc a).alloc b) := below_alloc (bel1 w a) b
theorem bel3 (w : World) (a b c : Obj) : Below w.heap.size w (((w.alloc a).alloc b).alloc c) := below_alloc (bel2 w a b) c
theorem form_c0 (k : Nat) (h1 : 1 ≤ k) (h2 : k ≤ 11) (hc : clsK k = 0) (g : Nat) (x : S24) (lv : Value) (w : World) (hk : x.f0 = k) (hb : w.heap[g]? = some (.cells (evC x lv) 24 (0, 0))) :
    Calls Tryd.prog 23 #[.pointer (some ⟨g, 0, none⟩)] w fun e w' => ∃ vF, e = .returned (.tuple #[.agg #[.string (wordB k), vF, .pointer none, .slice none 0 0, .pointer none, .bool (liK k)], .bool true]) ∧ FieldsAt w' g vF (foK k) ∧ Below w.heap.size w w' := by
  obtain ⟨x0, x1, x2, x3, x4, x5, x6, l⟩ := x
  simp only at hk
  subst hk
  match k, h1, h2, hc, hb with
  | 1, _, _, _, hb =>
    refine (form_1 g (.int .i64 1) (.int .i64 x1) (.int .i64 x2) (.int .i64 x3) (.int .i64 x4) (.int .i64 x5) (.int .i64 x6) lv w rfl hb).mono ?_
    rintro e w' ⟨rfl, rfl⟩
    exact ⟨_, rfl, fields_blk (foK 1) (by have := blk_lt hb; omega) (at1_2 _ _ _), below_drew (bel2 _ _ _)⟩
  | 2, _, _, _, hb =>
    refine (form_2 g (.int .i64 2) (.int .i64 x1) (.int .i64 x2) (.int .i64 x3) (.int .i64 x4) (.int .i64 x5) (.int .i64 x6) lv w rfl hb).mono ?_
    rintro e w' ⟨rfl, rfl⟩
    exact ⟨_, rfl, fields_blk (foK 2) (by have := blk_lt hb; omega) (at1_2 _ _ _), below_drew (bel2 _ _ _)⟩
  | 3, _, _, hc, _ => exact absurd hc (by decide)
  | 4, _, _, hc, _ => exact absurd hc (by decide)
  | 5, _, _, _, hb =>
    refine (form_5 g (.int .i64 5) (.int .i64 x1) (.int .i64 x2) (.int .i64 x3) (.int .i64 x4) (.int .i64 x5) (.int .i64 x6) lv w rfl hb).mono ?_
    rintro e w' ⟨rfl, rfl⟩
    exact ⟨_, rfl, fields_blk (foK 5) (by have := blk_lt hb; omega) (at1_2 _ _ _), bel2 _ _ _⟩
  | 6, _, _, hc, _ => exact absurd hc (by decide)
  | 7, _, _, _, hb =>
    refine (form_7 g (.int .i64 7) (.int .i64 x1) (.int .i64 x2) (.int .i64 x3) (.int .i64 x4) (.int .i64 x5) (.int .i64 x6) lv w rfl hb).mono ?_
    rintro e w' ⟨rfl, rfl⟩
    exact ⟨_, rfl, fields_nil _ _, bel1 _ _⟩
  | 8, _, _, _, hb =>
    refine (form_8 g (.int .i64 8) (.int .i64 x1) (.int .i64 x2) (.int .i64 x3) (.int .i64 x4) (.int .i64 x5) (.int .i64 x6) lv w rfl hb).mono ?_
    rintro e w' ⟨rfl, rfl⟩
    exact ⟨_, rfl, fields_nil _ _, bel1 _ _⟩
  | 9, _, _, _, hb =>
    refine (form_9 g (.int .i64 9) (.int .i64 x1) (.int .i64 x2) (.int .i64 x3) (.int .i64 x4) (.int .i64 x5) (.int .i64 x6) lv w rfl hb).mono ?_
    rintro e w' ⟨rfl, rfl⟩
    exact ⟨_, rfl, fields_nil _ _, bel1 _ _⟩
  | 10, _, _, _, hb =>
    refine (form_10 g (.int .i64 10) (.int .i64 x1) (.int .i64 x2) (.int .i64 x3) (.int .i64 x4) (.int .i64 x5) (.int .i64 x6) lv w rfl hb).mono ?_
    rintro e w' ⟨rfl, rfl⟩
    exact ⟨_, rfl, fields_blk (foK 10) (by have := blk_lt hb; omega) (at1_2 _ _ _), bel2 _ _ _⟩
  | 11, _, _, hc, _ => exact absurd hc (by decide)
  | k + 12, _, h, _, _ => exact absurd h (by omega)
theorem form_c1 (k : Nat) (h1 : 1 ≤ k) (h2 : k ≤ 11) (hc : clsK k = 1) (g : Nat) (x : S24) (lv : Value) (w : World) (hk : x.f0 = k) (hb : w.heap[g]? = some (.cells (evC x lv) 24 (0, 0))) :
    Calls Tryd.prog 23 #[.pointer (some ⟨g, 0, none⟩)] w fun e w' => ∃ vF, e = .returned (.tuple #[.agg #[.string (wordB k), vF, .pointer (some ⟨g, 6, none⟩), .slice none 0 0, .pointer none, .bool false], .bool true]) ∧ FieldsAt w' g vF (foK k) ∧ Below w.heap.size w w' := by
  obtain ⟨x0, x1, x2, x3, x4, x5, x6, l⟩ := x
  simp only at hk
  subst hk
  match k, h1, h2, hc, hb with
  | 1, _, _, hc, _ => exact absurd hc (by decide)
  | 2, _, _, hc, _ => exact absurd hc (by decide)
  | 3, _, _, _, hb =>
    refine (form_3 g (.int .i64 3) (.int .i64 x1) (.int .i64 x2) (.int .i64 x3) (.int .i64 x4) (.int .i64 x5) (.int .i64 x6) lv w rfl hb).mono ?_
    rintro e w' ⟨rfl, rfl⟩
    exact ⟨_, rfl, fields_blk (foK 3) (by have := blk_lt hb; omega) (at1_2 _ _ _), below_drew (bel2 _ _ _)⟩
  | 4, _, _, _, hb =>
    refine (form_4 g (.int .i64 4) (.int .i64 x1) (.int .i64 x2) (.int .i64 x3) (.int .i64 x4) (.int .i64 x5) (.int .i64 x6) lv w rfl hb).mono ?_
    rintro e w' ⟨rfl, rfl⟩
    exact ⟨_, rfl, fields_blk (foK 4) (by have := blk_lt hb; omega) (at1_2 _ _ _), below_drew (bel2 _ _ _)⟩
  | 5, _, _, hc, _ => exact absurd hc (by decide)
  | 6, _, _, hc, _ => exact absurd hc (by decide)
  | 7, _, _, hc, _ => exact absurd hc (by decide)
  | 8, _, _, hc, _ => exact absurd hc (by decide)
  | 9, _, _, hc, _ => exact absurd hc (by decide)
  | 10, _, _, hc, _ => exact absurd hc (by decide)
  | 11, _, _, hc, _ => exact absurd hc (by decide)
  | k + 12, _, h, _, _ => exact absurd h (by omega)
theorem form_c2 (k : Nat) (h1 : 1 ≤ k) (h2 : k ≤ 11) (hc : clsK k = 2) (g : Nat) (x : S24) (lv : Value) (w : World) (hk : x.f0 = k) (hb : w.heap[g]? = some (.cells (evC x lv) 24 (0, 0))) :
    Calls Tryd.prog 23 #[.pointer (some ⟨g, 0, none⟩)] w fun e w' => ∃ vF b, e = .returned (.tuple #[.agg #[.string (wordB k), vF, .pointer none, .slice (some ⟨b, 0, none⟩) (wsK k).length (wsK k).length, .pointer (some ⟨g, 6, none⟩), .bool false], .bool true]) ∧ FieldsAt w' g vF (foK k) ∧ w'.heap[b]? = some (.cells ((wsK k).map Value.string).toArray 9 (0, 0)) ∧ Below w.heap.size w w' := by
  obtain ⟨x0, x1, x2, x3, x4, x5, x6, l⟩ := x
  simp only at hk
  subst hk
  match k, h1, h2, hc, hb with
  | 1, _, _, hc, _ => exact absurd hc (by decide)
  | 2, _, _, hc, _ => exact absurd hc (by decide)
  | 3, _, _, hc, _ => exact absurd hc (by decide)
  | 4, _, _, hc, _ => exact absurd hc (by decide)
  | 5, _, _, hc, _ => exact absurd hc (by decide)
  | 6, _, _, _, hb =>
    refine (form_6 g (.int .i64 6) (.int .i64 x1) (.int .i64 x2) (.int .i64 x3) (.int .i64 x4) (.int .i64 x5) (.int .i64 x6) lv w rfl hb).mono ?_
    rintro e w' (⟨rfl, rfl⟩ | ⟨rfl, rfl⟩)
    · exact ⟨_, w.heap.size + 2, rfl, fields_blk (foK 6) (by have := blk_lt hb; omega) (at1_3 _ _ _ _), at2_3 _ _ _ _, below_drew (bel3 _ _ _ _)⟩
    · exact ⟨_, w.heap.size + 1, rfl, fields_blk (foK 6) (by have := blk_lt hb; omega) (at2_3 _ _ _ _), at1_3 _ _ _ _, below_drew (bel3 _ _ _ _)⟩
  | 7, _, _, hc, _ => exact absurd hc (by decide)
  | 8, _, _, hc, _ => exact absurd hc (by decide)
  | 9, _, _, hc, _ => exact absurd hc (by decide)
  | 10, _, _, hc, _ => exact absurd hc (by decide)
  | 11, _, _, _, hb =>
    refine (form_11 g (.int .i64 11) (.int .i64 x1) (.int .i64 x2) (.int .i64 x3) (.int .i64 x4) (.int .i64 x5) (.int .i64 x6) lv w rfl hb).mono ?_
    rintro e w' (⟨rfl, rfl⟩ | ⟨rfl, rfl⟩)
    · exact ⟨_, w.heap.size + 2, rfl, fields_blk (foK 11) (by have := blk_lt hb; omega) (at1_3 _ _ _ _), at2_3 _ _ _ _, below_drew (bel3 _ _ _ _)⟩
    · exact ⟨_, w.heap.size + 1, rfl, fields_blk (foK 11) (by have := blk_lt hb; omega) (at2_3 _ _ _ _), at1_3 _ _ _ _, below_drew (bel3 _ _ _ _)⟩
  | k + 12, _, h, _, _ => exact absurd h (by omega)
end Go.Proofs.YtiapfhlipoomaaaDoor.Given
end
section
namespace Go.Proofs.YtiapfhlipoomaaaDoor.Given
open Go.RowKit Go.Proofs.YtiapfhlipoomaaaDoorW.PrintWords Go.Proofs.YtiapfhlipoomaaaDoorW.PrintLast Go.Proofs.YtiapfhlipoomaaaDoorW.PrintMore Go.Proofs.YtiapfhlipoomaaaDoor.Print
set_option linter.unusedVariables false
set_option linter.unusedSimpArgs false
def markE (v : Int) (i : Nat) (x : S24) : S24 := ⟨v, x.f1, x.f2, x.f3, x.f4, x.f5, x.f6, x.f7.map (fun _ => wrap64 (v - i))⟩
def markAll (v : Int) (xs : List S24) : List S24 := xs.mapIdx (markE v)
theorem markAll_length (v : Int) (xs : List S24) : (markAll v xs).length = xs.length := List.length_mapIdx
theorem addz_at (b m : Nat) : (⟨b, 0, none⟩ : Addr).add m = ⟨b, m, none⟩ := by
  simp [Addr.add]
  exact Eq.symm
theorem evC_one (x : S24) (A : Option Addr) (n c : Nat) : ∀ u ∈ (evC x (.slice A n c)).toList, u.oneCell' = true := by
  intro u hu
  simp only [List.mem_cons, List.not_mem_nil, or_false] at hu
  rcases hu with rfl | rfl | rfl | rfl | rfl | rfl | rfl | rfl <;> rfl
structure Kept (ok : Nat → Prop) (W w : World) : Prop where
  os : w.os = W.os
  tape : w.tape = W.tape
  output : w.output = W.output
  size : W.heap.size ≤ w.heap.size
  block : ∀ k, k < W.heap.size → ¬ ok k → w.heap[k]? = W.heap[k]?
theorem Kept.refl (ok : Nat → Prop) (W : World) : Kept ok W W := ⟨rfl, rfl, rfl, Nat.le_refl _, fun _ _ _ => rfl⟩
theorem Kept.grown {ok : Nat → Prop} {W w w1 : World} {row : Option Nat} (h : Kept ok W w) (hg : w.grownBy w1 row) (hok : ∀ k, row = some k → ok k) : Kept ok W w1 :=
  ⟨hg.os.trans h.os, hg.tape.trans h.tape, hg.output.trans h.output, Nat.le_trans h.size hg.size, fun k hk hn => (hg.block k (Nat.lt_of_lt_of_le hk h.size) (fun he => hn (hok k he.symm))).trans (h.block k hk hn)⟩
def lk (y : Int) (k : Nat) (xs : List Int) : List Int := xs.mapIdx (fun j x => if j < k then y else x)
theorem lk_len (y : Int) (k : Nat) (xs : List Int) : (lk y k xs).length = xs.length := List.length_mapIdx
theorem lk_zero (y : Int) (xs : List Int) : lk y 0 xs = xs := by
  apply List.ext_getElem?
  intro j
  simp [lk, List.getElem?_mapIdx]
theorem lk_all (y : Int) (xs : List Int) : lk y xs.length xs = xs.map (fun _ => y) := by
  apply List.ext_getElem?
  intro j
  simp only [lk, List.getElem?_mapIdx, List.getElem?_map]
  by_cases hj : j < xs.length
  · simp [hj]
  · simp [hj]
theorem lk_succ (y : Int) (k : Nat) (xs : List Int) : lk y (k + 1) xs = (lk y k xs).set k y := by
  apply List.ext_getElem?
  intro j
  simp only [lk, List.getElem?_mapIdx, List.getElem?_set, List.length_mapIdx]
  by_cases hjk : k = j
  · subst hjk
    by_cases hj : k < xs.length
    · simp [hj]
    · simp [hj]
  · rw [if_neg hjk]
    by_cases hj : j < xs.length
    · simp only [List.getElem?_eq_getElem hj, Option.map_some]
      have : (j < k + 1) = (j < k) := by
        apply propext
        omega
      simp only [this]
    · simp [hj]
def mkTo (v : Int) (i : Nat) (l : List S24) : List S24 := l.mapIdx (fun j x => if j < i then markE v j x else x)
theorem mkTo_len (v : Int) (i : Nat) (l : List S24) : (mkTo v i l).length = l.length := List.length_mapIdx
theorem mkTo_zero (v : Int) (l : List S24) : mkTo v 0 l = l := by
  apply List.ext_getElem?
  intro j
  simp [mkTo, List.getElem?_mapIdx]
theorem mkTo_all (v : Int) (l : List S24) : mkTo v l.length l = markAll v l := by
  apply List.ext_getElem?
  intro j
  simp only [mkTo, markAll, List.getElem?_mapIdx]
  by_cases hj : j < l.length
  · simp [hj]
  · simp [hj]
theorem mkTo_at (v : Int) (i : Nat) (l : List S24) : (mkTo v i l)[i]? = l[i]? := by
  simp only [mkTo, List.getElem?_mapIdx, Nat.lt_irrefl, if_false]
  simp
theorem mkTo_succ (v : Int) (i : Nat) (l : List S24) (x : S24) (hx : l[i]? = some x) : mkTo v (i + 1) l = (mkTo v i l).set i (markE v i x) := by
  apply List.ext_getElem?
  intro j
  have hi := (List.getElem?_eq_some_iff.1 hx).1
  simp only [mkTo, List.getElem?_mapIdx, List.getElem?_set, List.length_mapIdx]
  by_cases hjk : i = j
  · subst hjk
    simp [hi, hx]
    rw [List.getElem?_eq_getElem hi] at hx
    injection hx with hx
    rw [hx]
  · rw [if_neg hjk]
    by_cases hj : j < l.length
    · simp only [List.getElem?_eq_getElem hj, Option.map_some]
      have : (j < i + 1) = (j < i) := by
        apply propext
        omega
      simp only [this]
    · simp [hj]
def evTo (v y : Int) (k : Nat) (x : S24) : S24 := ⟨v, x.f1, x.f2, x.f3, x.f4, x.f5, x.f6, lk y k x.f7⟩
theorem evTo_all (v : Int) (i : Nat) (x : S24) : evTo v (wrap64 (v - i)) x.f7.length x = markE v i x := by
  simp only [evTo, markE, lk_all]
theorem int_stored {w : World} {base b m c : Nat} {ok : Nat → Prop} {xs : List Int} (h : Kd.R (Kd.int .i64) 3 w base ok (.slice (some ⟨b, 0, none⟩) m c) xs) (k : Nat) (y : Int) :
    Kd.R (Kd.int .i64) 3 (w.setCell ⟨b, k, none⟩ (.int .i64 y)) base ok (.slice (some ⟨b, 0, none⟩) m c) (xs.set k y) ∧ w.grownBy (w.setCell ⟨b, k, none⟩ (.int .i64 y)) (some b) := by
  have hm := (Kd.R_reads' h).1
  subst hm
  have ho := Kd.own_of_R h
  obtain ⟨h1, h2⟩ := ho.stored k (.int .i64 y)
  refine ⟨Kd.R_of_own ?_ h.1, h2⟩
  rw [List.length_set]
  have e : encs (Value.int .i64) (xs.set k y) = (encs (Value.int .i64) xs).set k (.int .i64 y) := by simp [encs, List.map_set]
  rw [e]
  exact h1
theorem int_at {w : World} {base b m c : Nat} {ok : Nat → Prop} {xs : List Int} (h : Kd.R (Kd.int .i64) 3 w base ok (.slice (some ⟨b, 0, none⟩) m c) xs) (k : Nat) (hk : k < m) : (∃ u, w.cell? ⟨b, k, none⟩ = some u) ∧ w.frozen? ⟨b, k, none⟩ = false := by
  have hm := (Kd.R_reads' h).1
  subst hm
  have ho := Kd.own_of_R h
  have hl : (encs (Value.int .i64) xs).length = xs.length := by simp [encs]
  exact ⟨⟨_, (ho.cellAt k (by omega)).trans (List.getElem?_eq_getElem (by omega))⟩, ho.frozenAt k⟩
theorem S_field0 {w : World} {base n cp ga i : Nat} {ok : Nat → Prop} {xs : List S24} {x : S24} (h : Kd.S k24 24 w base ok (.slice (some ⟨ga, 0, none⟩) n cp) xs) (hx : xs[i]? = some x) (v : Int) :
    (∃ u, w.cell? ⟨ga, i * 8, none⟩ = some u) ∧ w.frozen? ⟨ga, i * 8, none⟩ = false ∧ Kd.S k24 24 (w.setCell ⟨ga, i * 8, none⟩ (.int .i64 v)) base ok (.slice (some ⟨ga, 0, none⟩) n cp) (xs.set i ⟨v, x.f1, x.f2, x.f3, x.f4, x.f5, x.f6, x.f7⟩) ∧ w.grownBy (w.setCell ⟨ga, i * 8, none⟩ (.int .i64 v)) (some ga) := by
  have hn := (Kd.S_reads' h).1
  have hil := (List.getElem?_eq_some_iff.1 hx).1
  obtain ⟨oki, c, hcl, hM, hcc, hfr, hoki, hH⟩ := Kd.S_elem (Kd.S_mono (ok' := fun k => ok k ∧ ¬ False) h (fun k hk => ⟨hk, id⟩)) x (i : Int) (by omega) (by omega)
  have hg : xs.getD (i : Int).toNat x = x := by rw [Int.toNat_natCast, List.getD_eq_getElem?_getD, hx]; rfl
  rw [hg] at hM
  obtain ⟨v7, rfl, hR7⟩ := k24_openM hM
  have h0 := hcc 0 _ rfl
  have h1 := hfr 0
  have hs := Kd.S_seg (okg := fun _ => False) hH (by omega) (by omega) (seg := [.int .i64 v]) (j := 0) (x' := ⟨v, x.f1, x.f2, x.f3, x.f4, x.f5, x.f6, x.f7⟩) (okp := oki) (by show 0 + 1 ≤ 8; omega) (k24_mkM _ _ _ ⟨v, x.f1, x.f2, x.f3, x.f4, x.f5, x.f6, x.f7⟩ hR7) (fun k hk => Or.inl hk) (fun k hk => hk.elim)
  rw [Int.toNat_natCast] at h0 h1 hs
  exact ⟨⟨_, h0⟩, h1, hs.1, hs.2⟩
set_option maxRecDepth 100000 in
set_option maxHeartbeats 4000000 in
theorem mark_any (A : Option Addr) (cp : Nat) (l : List S24) (v : Int) (base : Nat) (ok : Nat → Prop) (w : World) (hS : Kd.S k24 24 w base ok (.slice A l.length cp) l) (hbase : base ≤ w.heap.size) (hlen : l.length ≤ 1000000000) (hln : ∀ x ∈ l, x.f7.length ≤ 1000000000) :
    Calls Tryd.prog 21 #[.slice A l.length cp, .int .i64 v] w fun e w' => e = .returned (.tuple #[]) ∧ Kd.S k24 24 w' base ok (.slice A l.length cp) (markAll v l) ∧ Kept ok w w' := by
  have hu24 := Tryd.underlying24
  have HS := Aside0.mk hS
  have HBS := Aside0.mk hbase
  have HLN := Aside0.mk hln
  clear hS hbase hln
  go_enter Tryd.func21, Tryd.ntmps21
  go_wp2_with (fail)
  go_loopw [4] (fun v4 wr => ∃ i : Nat, v4 = .int .i64 i ∧ i ≤ l.length ∧ Aside0 (Kd.S k24 24 wr base ok (.slice A l.length cp) (mkTo v i l)) ∧ Aside0 (Kept ok w wr)) (fun v4 _ => l.length - (intOf v4).toNat)
  case atStart => exact ⟨0, rfl, by omega, ⟨by rw [mkTo_zero]; exact HS.out⟩, ⟨Kept.refl _ _⟩⟩
  case round =>
    clear HS
    obtain ⟨i, rfl, hi, HS, HK⟩ := hrel
    obtain ⟨wo, rfl⟩ : ∃ wo : World, wo = wr := ⟨_, rfl⟩
    have hml := mkTo_len v i l
    by_cases hlt : i < l.length
    · obtain ⟨x, hx⟩ : ∃ x, l[i]? = some x := ⟨_, List.getElem?_eq_getElem hlt⟩
      have HX := Aside0.mk hx
      have hxl := HLN.out x (List.mem_of_getElem? hx)
      obtain ⟨ga, ca, e, hga, _⟩ := Kd.S_form HS.out (by omega)
      injection e with e1 e2 e3
      subst e1 e3
      obtain ⟨⟨u0, hu0⟩, hf0, hs0, hg0⟩ := S_field0 HS.out (i := i) (x := x) (by rw [mkTo_at]; exact hx) v
      have hok1 : ok ga := (Kd.S_R HS.out).1 ga rfl
      obtain ⟨y, hy⟩ : ∃ y, y = wrap64 (v - i) := ⟨_, rfl⟩
      have hev : evTo v y 0 x = ⟨v, x.f1, x.f2, x.f3, x.f4, x.f5, x.f6, x.f7⟩ := by unfold evTo; rw [lk_zero]
      rw [← hev] at hs0
      have HS1 := Aside0.mk hs0
      have HK1 := Aside0.mk (HK.out.grown hg0 (by intro k hk; injection hk with hk; subst hk; exact hok1))
      clear hs0 hg0 hok1 hev hx e2 HS HK
      go_wp2_with (fail)
      go_loopw [5] (fun v5 wr => ∃ k : Nat, v5 = .int .i64 k ∧ k ≤ x.f7.length ∧ Aside0 (Kd.S k24 24 wr base ok (.slice (some ⟨ga, 0, none⟩) l.length cp) ((mkTo v i l).set i (evTo v y k x))) ∧ Aside0 (Kept ok w wr)) (fun v5 _ => x.f7.length - (intOf v5).toNat)
      case atStart => exact ⟨0, rfl, by omega, HS1, HK1⟩
      case round =>
        clear HS1 HK1 hu0 hf0
        obtain ⟨k, rfl, hk, HS, HK⟩ := hrel
        obtain ⟨wi, rfl⟩ : ∃ wi : World, wi = wr := ⟨_, rfl⟩
        obtain ⟨oki, c, hcl, hM, hcc, hoki, hback⟩ := Kd.S_borrow HS.out x (i : Int) (by omega) (by omega)
        have hg : ((mkTo v i l).set i (evTo v y k x)).getD (i : Int).toNat x = evTo v y k x := by rw [Int.toNat_natCast, List.getD_eq_getElem?_getD, List.getElem?_set_self (by omega)]; rfl
        rw [hg] at hM
        obtain ⟨v7, rfl, hR7⟩ := k24_openM hM
        obtain ⟨B7, d7, rfl⟩ := Kd.R_slice hR7
        have hkl : (evTo v y k x).f7 = lk y k x.f7 := rfl
        rw [hkl, lk_len] at hR7
        rw [hkl, lk_len] at hcc hback
        have x7 : wi.cell? ⟨ga, i * 8 + 7, none⟩ = some (.slice B7 x.f7.length d7) := by
          have := hcc 7 _ rfl
          rw [Int.toNat_natCast] at this
          rw [addz_at] at this
          exact this
        by_cases hkm : k < x.f7.length
        · obtain ⟨gb, cb, e, _⟩ := Kd.R_form hR7 (by rw [lk_len]; omega)
          injection e with e1 e2 e3
          subst e1 e3
          obtain ⟨⟨u, hu⟩, hfz⟩ := int_at hR7 k hkm
          obtain ⟨hR8, hg8⟩ := int_stored hR7 k y
          have hokb := (hoki gb (hR7.1 gb rfl)).1
          have hS2 := hback hg8 (fun q hq => by injection hq with hq; subst hq; exact hR7.1 gb rfl) (k24_mkM _ _ _ (evTo v y (k + 1) x) (by show Kd.R _ 3 _ _ _ (.slice (some ⟨gb, 0, none⟩) x.f7.length d7) (lk y (k + 1) x.f7); rw [lk_succ]; exact hR8))
          rw [Int.toNat_natCast, List.set_set] at hS2
          have HS2 := Aside0.mk hS2
          have HK2 := Aside0.mk (HK.out.grown hg8 (by intro q hq; injection hq with hq; subst hq; exact hokb))
          clear hback hS2 hR7 hR8 hg8 hcc hoki hM hg hcl e2 hkl
          go_wp2_with (fail)
          rw [← hy]
          go_roundw
          case rel => exact ⟨k + 1, by go_num, by omega, HS2, HK2⟩
          case measure => simp [intOf]; omega
        · obtain rfl : k = x.f7.length := by omega
          have HR7 := Aside0.mk hR7
          have HBK := Aside0.mk @hback
          have HOI := Aside0.mk hoki
          clear hback hR7 hcc hoki hM hg hcl hkl
          go_wp2_with (fail)
          go_loopw [6, 7] (fun v6 v7 wr => ∃ (q : Nat) (inner : List Value), v7 = .int .i64 q ∧ q ≤ 9 ∧ Aside0 (wr.ownsRow base 3 1 v6 (x.f7.length + q) inner) ∧ Aside0 (Side wi.heap.size (.slice B7 x.f7.length d7) x.f7.length v6 (x.f7.length + q)) ∧ Aside0 (Ext wi wr 3 1 (.slice B7 x.f7.length d7) x.f7.length)) (fun _ v7 _ => 9 - (intOf v7).toNat)
          case atStart =>
            obtain ⟨inner, ho⟩ := Kd.R_own HR7.out
            rw [lk_len] at ho
            exact ⟨0, inner, rfl, by omega, ⟨ho⟩, ⟨Side.refl⟩, ⟨Ext.refl _ _ _ _ _⟩⟩
          case round =>
            obtain ⟨q, inner, rfl, hq, HOW, HSD, HEX⟩ := hrel
            obtain ⟨wj, rfl⟩ : ∃ wj : World, wj = wr := ⟨_, rfl⟩
            by_cases hq9 : q < 9
            · have HB2 : Aside0 (base ≤ wj.heap.size) := ⟨Nat.le_trans HBS.out (Nat.le_trans HK.out.size HEX.out.grown.size)⟩
              go_wp2_with ((with_reducible refine gate_builtin (b := .append) (xs := #[.tmp 50, .tmp 51]) rfl ?_); at_builtin; refine append_beside (W := wj) base rfl (.tmp 50) (.tmp 51) 22 3 (.int .i64 0) 1 8 rfl Tryd.underlying22 info3 rfl (by decide) (by decide) _ (x.f7.length + q) inner [.int .i64 (-9000)] rfl rfl rfl ?a1 HOW.out HB2.out ?a2 ?_; (case a1 => intro u hu; rw [List.mem_singleton] at hu; subst hu; rfl); (case a2 => omega); intro v1 w1 ho hg hst; have HO1 := Aside0.mk ho; obtain ⟨hx1, hs1⟩ := HEX.out.step HSD.out hg hst; have HX1 := Aside0.mk hx1; have HS1 := Aside0.mk hs1; clear ho hg hst hx1 hs1)
              go_roundw
              case rel => exact ⟨q + 1, _, by go_num, by omega, HO1, HS1, HX1⟩
              case measure => simp [intOf]; omega
            · obtain rfl : q = 9 := by omega
              go_wp2_with (fail)
              have hr9 : Kd.R (Kd.int .i64) 3 wj base oki (.slice B7 x.f7.length d7) (lk y x.f7.length x.f7) := R_stay HR7.out (by rw [lk_len]; exact HEX.out)
              have hown : ∀ q, (Value.slice B7 x.f7.length d7).ownBlock = some q → oki q := HR7.out.1
              have hS9 := HBK.out HEX.out.grown hown (k24_mkM _ _ _ (evTo v y x.f7.length x) hr9)
              rw [Int.toNat_natCast, List.set_set, hy, evTo_all, ← mkTo_succ v i l x HX.out] at hS9
              go_roundw
              case rel => exact ⟨i + 1, by go_num, by omega, ⟨hS9⟩, ⟨HK.out.grown HEX.out.grown (fun q hq => (HOI.out q (hown q hq)).1)⟩⟩
              case measure => simp [intOf]; omega
    · obtain rfl : i = l.length := by omega
      rw [mkTo_all] at HS
      have hal := markAll_length v l
      go_wp2_with (fail)
      go_loopw [8, 9] (fun v8 v9 wr => ∃ (q : Nat) (inner : List Value), v9 = .int .i64 q ∧ q ≤ 9 ∧ Aside0 (wr.ownsRow base 24 8 v8 (l.length + q) inner) ∧ Aside0 (Side wo.heap.size (.slice A l.length cp) l.length v8 (l.length + q)) ∧ Aside0 (Ext wo wr 24 8 (.slice A l.length cp) l.length)) (fun _ v9 _ => 9 - (intOf v9).toNat)
      case atStart =>
        obtain ⟨inner, ho⟩ := Kd.S_own HS.out
        rw [hal] at ho
        exact ⟨0, inner, rfl, by omega, ⟨ho⟩, ⟨Side.refl⟩, ⟨Ext.refl _ _ _ _ _⟩⟩
      case round =>
        obtain ⟨q, inner, rfl, hq, HOW, HSD, HEX⟩ := hrel
        obtain ⟨wj, rfl⟩ : ∃ wj : World, wj = wr := ⟨_, rfl⟩
        by_cases hq9 : q < 9
        · have HB2 : Aside0 (base ≤ wj.heap.size) := ⟨Nat.le_trans HBS.out (Nat.le_trans HK.out.size HEX.out.grown.size)⟩
          go_wp2_with ((with_reducible refine gate_builtin (b := .append) (xs := #[.tmp 58, .tmp 60]) rfl ?_); at_builtin; refine append_beside (W := wj) base rfl (.tmp 58) (.tmp 60) 29 24 (.agg #[.int .i64 0, .int .i64 0, .int .i64 0, .int .i64 0, .int .i64 0, .int .i64 0, .int .i64 0, .slice none 0 0]) 8 80 rfl Tryd.underlying29 info24 rfl (by decide) (by decide) _ (l.length + q) inner (evC ⟨-9000, 0, 0, 0, 0, 0, 0, []⟩ (.slice none 0 0)).toList rfl rfl rfl ?a1 HOW.out HB2.out ?a2 ?_; (case a1 => exact evC_one ⟨-9000, 0, 0, 0, 0, 0, 0, []⟩ none 0 0); (case a2 => omega); intro v1 w1 ho hg hst; have HO1 := Aside0.mk ho; obtain ⟨hx1, hs1⟩ := HEX.out.step HSD.out hg hst; have HX1 := Aside0.mk hx1; have HS1 := Aside0.mk hs1; clear ho hg hst hx1 hs1)
          go_roundw
          case rel => exact ⟨q + 1, _, by go_num, by omega, HO1, HS1, HX1⟩
          case measure => simp [intOf]; omega
        · obtain rfl : q = 9 := by omega
          go_wp2_with (fail)
          go_returns
          exact ⟨rfl, S_stay HS.out (by rw [hal]; exact HEX.out), HK.out.grown HEX.out.grown (Kd.S_R HS.out).1⟩
end Go.Proofs.YtiapfhlipoomaaaDoor.Given
end
section
namespace Go.Proofs.YtiapfhlipoomaaaDoor.Given
open Go.RowKit Go.Proofs.YtiapfhlipoomaaaDoorW.PrintWords Go.Proofs.YtiapfhlipoomaaaDoorW.PrintLast Go.Proofs.YtiapfhlipoomaaaDoorW.PrintMore Go.Proofs.YtiapfhlipoomaaaDoor.Print
set_option linter.unusedVariables false
set_option linter.unusedSimpArgs false
theorem heap_push (w : World) (o : Obj) : (w.alloc o).heap = w.heap.push o := rfl
theorem heap_drew (w : World) : w.drew.heap = w.heap := rfl
theorem size_alloc (w : World) (o : Obj) : (w.alloc o).heap.size = w.heap.size + 1 := by rw [heap_push, Array.size_push]
theorem hp_new (w : World) (o : Obj) (k : Nat) (hk : k = w.heap.size) : (w.alloc o).heap[k]? = some o := by subst hk; exact heap_alloc_new w o
theorem hp_lt (w : World) (o x : Obj) (k : Nat) (h : w.heap[k]? = some x) : (w.alloc o).heap[k]? = some x := blk_below h (below_alloc (Below.refl _ _) o)
theorem hp_drew (w : World) (x : Obj) (k : Nat) (h : w.heap[k]? = some x) : w.drew.heap[k]? = some x := h
theorem cell_keep {w w1 : World} {g i t : Nat} {cs : Array Value} {v : Value} (hg : w.heap[g]? = some (.cells cs t (0, 0))) (hb : Below w.heap.size w w1) (hv : cs[i]? = some v) : w1.cell? ⟨g, i, none⟩ = some v := (blk_cell (blk_below hg hb) i).trans hv
theorem ret_int {k : IntKind} {a b : Int} (h : a = b) : Ending.returned (.int k a) = .returned (.int k b) := by rw [h]
theorem wrap_small (i : Int) (h0 : 0 ≤ i) (h1 : i < 9223372036854775807) : wrap64 (i + 1) = i + 1 := by simp only [wrap64]; omega
theorem equal_from (a b : List Int) (hl : a.length = b.length) (hs : a.length ≤ 9223372036854775807) : ∀ (m k : Nat), k + m = a.length → slices_Equal_int_int.l0 (m + 1) a b (a.length : Int) (k : Int) = some (decide (a.drop k = b.drop k))
  | 0, k, h => by
    unfold slices_Equal_int_int.l0
    rw [if_neg (by omega)]
    rw [List.drop_of_length_le (by omega), List.drop_of_length_le (by omega)]
    simp
  | m + 1, k, h => by
    unfold slices_Equal_int_int.l0
    have ha : k < a.length := by omega
    have hb : k < b.length := by omega
    rw [if_pos (by omega), if_pos (by omega), if_pos (by omega), if_pos (by omega), wrap_small _ (by omega) (by omega)]
    have ra : rd a (k : Int) = a[k] := by simp [rd, ha]
    have rb : rd b (k : Int) = b[k] := by simp [rd, hb]
    rw [ra, rb, List.drop_eq_getElem_cons ha, List.drop_eq_getElem_cons hb]
    by_cases he : a[k] = b[k]
    · rw [if_pos he]
      have := equal_from a b hl hs m (k + 1) (by omega)
      rw [show ((k : Int) + 1) = ((k + 1 : Nat) : Int) by omega, this]
      congr 1
      rw [decide_eq_decide, List.cons.injEq]
      exact ⟨fun h => ⟨he, h⟩, fun h => h.2⟩
    · rw [if_neg he]
      congr 1
      rw [eq_comm, decide_eq_false_iff_not, List.cons.injEq]
      exact fun h => he h.1
theorem equal_says (a b : List Int) (hs : a.length ≤ 9223372036854775807) : slices_Equal_int_int.f (a.length + 1) a b = some (decide (a = b)) := by
  unfold slices_Equal_int_int.f
  by_cases hl : a.length = b.length
  · rw [if_pos (by omega)]
    have := equal_from a b hl hs a.length 0 (by omega)
    simpa using this
  · rw [if_neg (by omega)]
    simp
    intro h
    exact hl (by rw [h])
def sameP (x y : S24) : Prop := x.f0 = y.f0 ∧ x.f1 = y.f1 ∧ x.f2 = y.f2 ∧ x.f3 = y.f3 ∧ x.f4 = y.f4 ∧ x.f5 = y.f5 ∧ x.f6 = y.f6 ∧ x.f7 = y.f7
abbrev evV (x : S24) (A : Option Addr) (c : Nat) : Value := .agg #[.int .i64 x.f0, .int .i64 x.f1, .int .i64 x.f2, .int .i64 x.f3, .int .i64 x.f4, .int .i64 x.f5, .int .i64 x.f6, .slice A x.f7.length c]
theorem same_says (x y : S24) (hs : x.f7.length ≤ 9223372036854775807) (r : Bool) (h : r = true ↔ sameP x y) : trace_same.f (x.f7.length + 1) x.f0 x.f1 x.f2 x.f3 x.f4 x.f5 x.f6 x.f7 y.f0 y.f1 y.f2 y.f3 y.f4 y.f5 y.f6 y.f7 = some r := by
  unfold trace_same.f
  rw [equal_says _ _ hs]
  simp only [Option.bind_some]
  unfold sameP at h
  cases r <;> (repeat' split) <;> simp_all
theorem same_yes (x y : S24) (A B : Option Addr) (c d : Nat) (w : World) (hx : Kd.C (Kd.int .i64) w A x.f7.length x.f7) (hc : x.f7.length ≤ c) (hy : Kd.C (Kd.int .i64) w B y.f7.length y.f7) (hd : y.f7.length ≤ d) (h : sameP x y) :
    Calls Tryd.prog 24 #[evV x A c, evV y B d] w fun e w' => e = .returned (.bool true) ∧ Below w.heap.size w w' :=
  trace_same.calls _ _ _ _ _ _ _ _ A c _ _ _ _ _ _ _ _ B d _ true w hx hc hy hd (same_says x y (by have := hx.2.1; exact this) true ⟨fun _ => h, fun _ => rfl⟩)
theorem same_no (x y : S24) (A B : Option Addr) (c d : Nat) (w : World) (hx : Kd.C (Kd.int .i64) w A x.f7.length x.f7) (hc : x.f7.length ≤ c) (hy : Kd.C (Kd.int .i64) w B y.f7.length y.f7) (hd : y.f7.length ≤ d) (h : ¬ sameP x y) :
    Calls Tryd.prog 24 #[evV x A c, evV y B d] w fun e w' => e = .returned (.bool false) ∧ Below w.heap.size w w' :=
  trace_same.calls _ _ _ _ _ _ _ _ A c _ _ _ _ _ _ _ _ B d _ false w hx hc hy hd (same_says x y (by have := hx.2.1; exact this) false ⟨fun h => (Bool.noConfusion h), fun hs => absurd hs h⟩)
def risesFrom : Int → List Int → Bool
  | _, [] => true
  | m, x :: r => decide (m < x) && risesFrom x r
def risesB (l : List Int) : Bool := risesFrom (-1) l
theorem rises_from (l : List Int) (hs : l.length ≤ 9223372036854775807) : ∀ (m k : Nat) (last : Int), k + m = l.length → trace_rises.l0 (m + 1) last l (l.length : Int) (k : Int) = some (risesFrom last (l.drop k))
  | 0, k, last, h => by
    unfold trace_rises.l0
    rw [if_neg (by omega), List.drop_of_length_le (by omega)]
    rfl
  | m + 1, k, last, h => by
    unfold trace_rises.l0
    have ha : k < l.length := by omega
    rw [if_pos (by omega), if_pos (by omega), if_pos (by omega), wrap_small _ (by omega) (by omega)]
    have ra : rd l (k : Int) = l[k] := by simp [rd, ha]
    rw [ra, List.drop_eq_getElem_cons ha]
    by_cases he : l[k] ≤ last
    · rw [if_pos he]
      simp [risesFrom]
      omega
    · rw [if_neg he]
      have := rises_from l hs m (k + 1) l[k] (by omega)
      rw [show ((k : Int) + 1) = ((k + 1 : Nat) : Int) by omega, this]
      simp [risesFrom]
      omega
theorem rises_any (l : List Int) (A : Option Addr) (c : Nat) (w : World) (hr : Kd.C (Kd.int .i64) w A l.length l) (hc : l.length ≤ c) (r : Bool) (h : risesB l = r) :
    Calls Tryd.prog 25 #[.slice A l.length c] w fun e w' => e = .returned (.bool r) ∧ Drawn0 w w' := by
  subst h
  refine trace_rises.calls (l.length + 1) A c l _ w hr hc ?_
  have := rises_from l (by have := hr.2.1; exact this) l.length 0 (-1) (by omega)
  simpa [trace_rises.f, risesB] using this
def okK : Nat → S24 → Bool
  | 1, x => decide (0 ≤ x.f1 ∧ 0 ≤ x.f3 ∧ x.f2 = 0 ∧ x.f4 = 0 ∧ x.f5 = 0 ∧ x.f6 = 0 ∧ x.f7 = [])
  | 2, x => decide (0 ≤ x.f1 ∧ 0 ≤ x.f2 ∧ 0 ≤ x.f3 ∧ 0 ≤ x.f4 ∧ 0 ≤ x.f5 ∧ x.f6 = 0 ∧ x.f7 = [])
  | 3, x => decide (0 ≤ x.f3 ∧ 0 ≤ x.f4 ∧ x.f1 = 0 ∧ x.f2 = 0 ∧ x.f5 = 0 ∧ x.f7 = [])
  | 4, x => decide (0 ≤ x.f1 ∧ 0 ≤ x.f2 ∧ x.f3 = 0 ∧ x.f4 = 0 ∧ x.f5 = 0 ∧ x.f7 = [])
  | 5, x => decide (0 ≤ x.f1 ∧ x.f2 = 0 ∧ x.f3 = 0 ∧ x.f4 = 0 ∧ x.f5 = 0 ∧ x.f6 = 0 ∧ x.f7 = [])
  | 6, x => decide (0 ≤ x.f1 ∧ 1 ≤ x.f6 ∧ x.f6 < 6 ∧ x.f2 = 0 ∧ x.f3 = 0 ∧ x.f4 = 0 ∧ x.f5 = 0 ∧ x.f7 = [])
  | 7, x => decide (x.f1 = 0 ∧ x.f2 = 0 ∧ x.f3 = 0 ∧ x.f4 = 0 ∧ x.f5 = 0 ∧ x.f6 = 0 ∧ x.f7 = [])
  | 8, x => decide (x.f1 = 0 ∧ x.f2 = 0 ∧ x.f3 = 0 ∧ x.f4 = 0 ∧ x.f5 = 0 ∧ x.f6 = 0 ∧ x.f7 = [])
  | 9, x => decide (x.f1 = 0 ∧ x.f2 = 0 ∧ x.f3 = 0 ∧ x.f4 = 0 ∧ x.f5 = 0 ∧ x.f6 = 0) && risesB x.f7
  | 10, x => decide (0 ≤ x.f1 ∧ x.f2 = 0 ∧ x.f3 = 0 ∧ x.f4 = 0 ∧ x.f5 = 0 ∧ x.f6 = 0 ∧ x.f7 = [])
  | 11, x => decide (0 ≤ x.f1 ∧ 1 ≤ x.f6 ∧ x.f6 < 7 ∧ x.f2 = 0 ∧ x.f3 = 0 ∧ x.f4 = 0 ∧ x.f5 = 0 ∧ x.f7 = [])
  | _, _ => false
def checkK (k : Nat) (x : S24) : Int := if okK k x then 0 else 180
end Go.Proofs.YtiapfhlipoomaaaDoor.Given
end
section
namespace Go.Proofs.YtiapfhlipoomaaaDoor.Given
open Go.RowKit Go.Proofs.YtiapfhlipoomaaaDoorW.PrintWords Go.Proofs.YtiapfhlipoomaaaDoorW.PrintLast Go.Proofs.YtiapfhlipoomaaaDoorW.PrintMore Go.Proofs.YtiapfhlipoomaaaDoor.Print
set_option linter.unusedVariables false
set_option linter.unusedSimpArgs false
theorem hp_setne (w : World) (x : Obj) (k b i : Nat) (v : Value) (hne : k ≠ b) (h : w.heap[k]? = some x) : (w.setCell ⟨b, i, none⟩ v).heap[k]? = some x := (Below.heap_setCell w ⟨b, i, none⟩ v k hne).trans h
end Go.Proofs.YtiapfhlipoomaaaDoor.Given
end
section
namespace Go.Proofs.YtiapfhlipoomaaaDoor.Given
open Go.RowKit Go.Proofs.YtiapfhlipoomaaaDoorW.PrintWords Go.Proofs.YtiapfhlipoomaaaDoorW.PrintLast Go.Proofs.YtiapfhlipoomaaaDoorW.PrintMore Go.Proofs.YtiapfhlipoomaaaDoor.Print
set_option linter.unusedVariables false
set_option linter.unusedSimpArgs false
theorem ws_len2 (k : Nat) : (wsK k).length ≤ 7 := by
  unfold wsK
  split <;> decide
theorem fo_len (k : Nat) : (foK k).length ≤ 5 := by
  unfold foK
  split <;> decide
theorem fo_le (k o : Nat) (h : o ∈ foK k) : 1 ≤ o ∧ o ≤ 6 := by
  unfold foK at h
  split at h <;> simp at h <;> omega
theorem ws_len (k : Nat) : (wsK k).length ≤ 7 := by
  unfold wsK
  split <;> decide
theorem ev_get (x : S24) (v : Value) (o : Nat) (h1 : 1 ≤ o) (h2 : o ≤ 6) : (evC x v)[o]? = some (.int .i64 (getK x o)) := by
  match o, h1, h2 with
  | 1, _, _ => rfl
  | 2, _, _ => rfl
  | 3, _, _ => rfl
  | 4, _, _ => rfl
  | 5, _, _ => rfl
  | 6, _, _ => rfl
def setK (x : S24) (n : Int) : Nat → S24
  | 1 => ⟨x.f0, n, x.f2, x.f3, x.f4, x.f5, x.f6, x.f7⟩
  | 2 => ⟨x.f0, x.f1, n, x.f3, x.f4, x.f5, x.f6, x.f7⟩
  | 3 => ⟨x.f0, x.f1, x.f2, n, x.f4, x.f5, x.f6, x.f7⟩
  | 4 => ⟨x.f0, x.f1, x.f2, x.f3, n, x.f5, x.f6, x.f7⟩
  | 5 => ⟨x.f0, x.f1, x.f2, x.f3, x.f4, n, x.f6, x.f7⟩
  | 6 => ⟨x.f0, x.f1, x.f2, x.f3, x.f4, x.f5, n, x.f7⟩
  | _ => x
def atK (k : Nat) : List Nat := foK k ++ (if clsK k = 1 then [6] else [])
theorem setK_f7 (x : S24) (n : Int) (o : Nat) : (setK x n o).f7 = x.f7 := by
  unfold setK
  split <;> rfl
theorem setK_f0 (x : S24) (n : Int) (o : Nat) : (setK x n o).f0 = x.f0 := by
  unfold setK
  split <;> rfl
theorem setK_cells (x : S24) (v : Value) (n : Int) (o : Nat) (h1 : 1 ≤ o) (h2 : o ≤ 6) : (evC x v).setIfInBounds o (.int .i64 n) = evC (setK x n o) v := by
  match o, h1, h2 with
  | 1, _, _ => rfl
  | 2, _, _ => rfl
  | 3, _, _ => rfl
  | 4, _, _ => rfl
  | 5, _, _ => rfl
  | 6, _, _ => rfl
theorem add_block (ad : Addr) (j : Nat) : (ad.add j).block = ad.block := by
  unfold Addr.add
  split <;> rfl
structure Fr (base g : Nat) (w w' : World) : Prop where
  os : w'.os = w.os
  tape : w'.tape = w.tape
  output : w'.output = w.output
  size : w.heap.size ≤ w'.heap.size
  block : ∀ k, k < base → k ≠ g → w'.heap[k]? = w.heap[k]?
theorem Fr.below {base g N : Nat} {w w' : World} (h : Fr base g w w') (hb : N ≤ base) (hg : N ≤ g) : Below N w w' := ⟨h.os, h.tape, h.output, h.size, fun k hk => h.block k (by omega) (by omega)⟩
theorem Fr.of_below {base g : Nat} {w w' : World} (h : Below base w w') : Fr base g w w' := ⟨h.os, h.tape, h.output, h.size, fun k hk _ => h.block k hk⟩
theorem Fr.trans {base g : Nat} {w w1 w2 : World} (h : Fr base g w w1) (k : Fr base g w1 w2) : Fr base g w w2 := ⟨k.os.trans h.os, k.tape.trans h.tape, k.output.trans h.output, Nat.le_trans h.size k.size, fun j hj hg => (k.block j hj hg).trans (h.block j hj hg)⟩
theorem Fr.mono {base base' g : Nat} {w w1 : World} (h : Fr base g w w1) (hb : base' ≤ base) : Fr base' g w w1 := ⟨h.os, h.tape, h.output, h.size, fun j hj hg => h.block j (by omega) hg⟩
theorem fr_set {base g : Nat} {w w1 : World} (h : Fr base g w w1) (j : Nat) (v : Value) : Fr base g w (w1.setCell ⟨g, j, none⟩ v) :=
  ⟨h.os, h.tape, h.output, by simpa [World.setCell] using h.size, fun k hk hkg => (Below.heap_setCell w1 ⟨g, j, none⟩ v k hkg).trans (h.block k hk hkg)⟩
theorem Fr.cell {base g : Nat} {w w1 : World} (h : Fr base g w w1) {a : Addr} {v : Value} (hc : w.cell? a = some v) (hb : w.heap.size ≤ base) (hg : a.block ≠ g) : w1.cell? a = some v :=
  (World.cell?_of_block (w := w) (h.block a.block (Nat.lt_of_lt_of_le (World.block_lt_of_cell? w a hc) hb) hg)).trans hc
theorem Fr.blk {base g b : Nat} {w w1 : World} {o : Obj} (h : Fr base g w w1) (hc : w.heap[b]? = some o) (hb : w.heap.size ≤ base) (hg : b ≠ g) : w1.heap[b]? = some o := (h.block b (Nat.lt_of_lt_of_le (blk_lt hc) hb) hg).trans hc
end Go.Proofs.YtiapfhlipoomaaaDoor.Given
end
section
namespace Go.Proofs.YtiapfhlipoomaaaDoor.Given
open Go.RowKit Go.Proofs.YtiapfhlipoomaaaDoorW.PrintWords Go.Proofs.YtiapfhlipoomaaaDoorW.PrintLast Go.Proofs.YtiapfhlipoomaaaDoorW.PrintMore Go.Proofs.YtiapfhlipoomaaaDoor.Print
set_option linter.unusedVariables false
set_option linter.unusedSimpArgs false
def onlyA (x : S24) (fo : List Nat) : S24 := fo.foldl (fun y o => setK y (getK x o) o) ⟨x.f0, 0, 0, 0, 0, 0, 0, []⟩
theorem ev_noptr {w : World} {g n c : Nat} {x : S24} {A : Option Addr} {a : Addr} {v : Option Addr} (hg : w.heap[g]? = some (.cells (evC x (.slice A n c)) 24 (0, 0))) (hc : w.cell? a = some (.pointer v)) : a.block ≠ g := by
  rintro rfl
  unfold World.cell? at hc
  rw [hg] at hc
  simp only at hc
  split at hc
  · cases hc
  · generalize a.off = o at hc
    rcases o with _ | _ | _ | _ | _ | _ | _ | _ | o <;> simp [evC] at hc
theorem onlyA_snoc (x : S24) (fo : List Nat) (o : Nat) : onlyA x (fo ++ [o]) = setK (onlyA x fo) (getK x o) o := by simp [onlyA]
def onlyK (k : Nat) (x : S24) : S24 := ⟨(onlyA x (atK k)).f0, (onlyA x (atK k)).f1, (onlyA x (atK k)).f2, (onlyA x (atK k)).f3, (onlyA x (atK k)).f4, (onlyA x (atK k)).f5, (onlyA x (atK k)).f6, if liK k then x.f7 else []⟩
theorem ok_neg (k o : Nat) (x : S24) (ho : o ∈ foK k) (hn : getK x o < 0) : checkK k x = 180 := by
  refine if_neg (fun h => ?_)
  unfold okK at h
  split at h <;> simp only [foK, List.mem_cons, List.not_mem_nil, or_false] at ho <;> (try simp only [Bool.and_eq_true, decide_eq_true_eq] at h) <;> (try (rcases ho with rfl | rfl | rfl | rfl | rfl)) <;> (try (rcases ho with rfl | rfl)) <;> (try subst ho) <;> simp only [getK] at hn <;> first | omega | cases h | cases ho
theorem ok_same (k : Nat) (hc : clsK k < 2) (h1 : 1 ≤ k) (h2 : k ≤ 11) (x : S24) (hk : x.f0 = k) (hp : ∀ o ∈ foK k, 0 ≤ getK x o) : okK k x = true ↔ sameP x (onlyK k x) ∧ risesB x.f7 = true := by
  match k, h1, h2, hc with
  | 1, _, _, _ =>
    simp only [foK, List.mem_cons, List.not_mem_nil, or_false, forall_eq_or_imp, forall_eq, getK, false_imp_iff, implies_true] at hp
    simp only [okK, onlyK, onlyA, atK, foK, clsK, liK, sameP, setK, getK, List.foldl_cons, List.foldl_nil, List.cons_append, List.nil_append, Bool.and_eq_true, decide_eq_true_eq, if_true, reduceCtorEq, if_false, true_and, List.append_nil, Nat.reduceEqDiff]
    constructor
    · intro h
      simp_all [risesB, risesFrom]
    · intro h
      simp_all [risesB, risesFrom]
  | 2, _, _, _ =>
    simp only [foK, List.mem_cons, List.not_mem_nil, or_false, forall_eq_or_imp, forall_eq, getK, false_imp_iff, implies_true] at hp
    simp only [okK, onlyK, onlyA, atK, foK, clsK, liK, sameP, setK, getK, List.foldl_cons, List.foldl_nil, List.cons_append, List.nil_append, Bool.and_eq_true, decide_eq_true_eq, if_true, reduceCtorEq, if_false, true_and, List.append_nil, Nat.reduceEqDiff]
    constructor
    · intro h
      simp_all [risesB, risesFrom]
    · intro h
      simp_all [risesB, risesFrom]
  | 3, _, _, _ =>
    simp only [foK, List.mem_cons, List.not_mem_nil, or_false, forall_eq_or_imp, forall_eq, getK, false_imp_iff, implies_true] at hp
    simp only [okK, onlyK, onlyA, atK, foK, clsK, liK, sameP, setK, getK, List.foldl_cons, List.foldl_nil, List.cons_append, List.nil_append, Bool.and_eq_true, decide_eq_true_eq, if_true, reduceCtorEq, if_false, true_and, List.append_nil, Nat.reduceEqDiff]
    constructor
    · intro h
      simp_all [risesB, risesFrom]
    · intro h
      simp_all [risesB, risesFrom]
  | 4, _, _, _ =>
    simp only [foK, List.mem_cons, List.not_mem_nil, or_false, forall_eq_or_imp, forall_eq, getK, false_imp_iff, implies_true] at hp
    simp only [okK, onlyK, onlyA, atK, foK, clsK, liK, sameP, setK, getK, List.foldl_cons, List.foldl_nil, List.cons_append, List.nil_append, Bool.and_eq_true, decide_eq_true_eq, if_true, reduceCtorEq, if_false, true_and, List.append_nil, Nat.reduceEqDiff]
    constructor
    · intro h
      simp_all [risesB, risesFrom]
    · intro h
      simp_all [risesB, risesFrom]
  | 5, _, _, _ =>
    simp only [foK, List.mem_cons, List.not_mem_nil, or_false, forall_eq_or_imp, forall_eq, getK, false_imp_iff, implies_true] at hp
    simp only [okK, onlyK, onlyA, atK, foK, clsK, liK, sameP, setK, getK, List.foldl_cons, List.foldl_nil, List.cons_append, List.nil_append, Bool.and_eq_true, decide_eq_true_eq, if_true, reduceCtorEq, if_false, true_and, List.append_nil, Nat.reduceEqDiff]
    constructor
    · intro h
      simp_all [risesB, risesFrom]
    · intro h
      simp_all [risesB, risesFrom]
  | 6, _, _, hc => exact absurd hc (by decide)
  | 7, _, _, _ =>
    simp only [foK, List.mem_cons, List.not_mem_nil, or_false, forall_eq_or_imp, forall_eq, getK, false_imp_iff, implies_true] at hp
    simp only [okK, onlyK, onlyA, atK, foK, clsK, liK, sameP, setK, getK, List.foldl_cons, List.foldl_nil, List.cons_append, List.nil_append, Bool.and_eq_true, decide_eq_true_eq, if_true, reduceCtorEq, if_false, true_and, List.append_nil, Nat.reduceEqDiff]
    constructor
    · intro h
      simp_all [risesB, risesFrom]
    · intro h
      simp_all [risesB, risesFrom]
  | 8, _, _, _ =>
    simp only [foK, List.mem_cons, List.not_mem_nil, or_false, forall_eq_or_imp, forall_eq, getK, false_imp_iff, implies_true] at hp
    simp only [okK, onlyK, onlyA, atK, foK, clsK, liK, sameP, setK, getK, List.foldl_cons, List.foldl_nil, List.cons_append, List.nil_append, Bool.and_eq_true, decide_eq_true_eq, if_true, reduceCtorEq, if_false, true_and, List.append_nil, Nat.reduceEqDiff]
    constructor
    · intro h
      simp_all [risesB, risesFrom]
    · intro h
      simp_all [risesB, risesFrom]
  | 9, _, _, _ =>
    simp only [foK, List.mem_cons, List.not_mem_nil, or_false, forall_eq_or_imp, forall_eq, getK, false_imp_iff, implies_true] at hp
    simp only [okK, onlyK, onlyA, atK, foK, clsK, liK, sameP, setK, getK, List.foldl_cons, List.foldl_nil, List.cons_append, List.nil_append, Bool.and_eq_true, decide_eq_true_eq, if_true, reduceCtorEq, if_false, true_and, List.append_nil, Nat.reduceEqDiff]
    constructor
    · intro h
      simp_all [risesB, risesFrom]
    · intro h
      simp_all [risesB, risesFrom]
  | 10, _, _, _ =>
    simp only [foK, List.mem_cons, List.not_mem_nil, or_false, forall_eq_or_imp, forall_eq, getK, false_imp_iff, implies_true] at hp
    simp only [okK, onlyK, onlyA, atK, foK, clsK, liK, sameP, setK, getK, List.foldl_cons, List.foldl_nil, List.cons_append, List.nil_append, Bool.and_eq_true, decide_eq_true_eq, if_true, reduceCtorEq, if_false, true_and, List.append_nil, Nat.reduceEqDiff]
    constructor
    · intro h
      simp_all [risesB, risesFrom]
    · intro h
      simp_all [risesB, risesFrom]
  | 11, _, _, hc => exact absurd hc (by decide)
  | k + 12, _, h, _ => exact absurd h (by omega)
theorem check_is (k : Nat) (hc : clsK k < 2) (h1 : 1 ≤ k) (h2 : k ≤ 11) (x : S24) (hk : x.f0 = k) (hp : ∀ o ∈ foK k, 0 ≤ getK x o) (b : Bool) (hb : b = true ↔ sameP x (onlyK k x) ∧ risesB x.f7 = true) : checkK k x = if b then 0 else 180 := by
  unfold checkK
  have := ok_same k hc h1 h2 x hk hp
  cases b
  · rw [if_neg (fun h => by have := hb.2 (this.1 h); cases this)]; rfl
  · rw [if_pos (this.2 (hb.1 rfl))]; rfl
theorem li_c1 (k : Nat) (h : clsK k = 1) : liK k = false := by
  unfold clsK at h
  split at h <;> first | rfl | cases h
set_option maxRecDepth 100000 in
set_option maxHeartbeats 8000000 in
theorem check_c0 (k : Nat) (h1 : 1 ≤ k) (h2 : k ≤ 11) (hc : clsK k = 0) (x : S24) (hk : x.f0 = k) (A : Option Addr) (cap : Nat) (w : World) (hr : Kd.C (Kd.int .i64) w A x.f7.length x.f7) (hcap : x.f7.length ≤ cap) :
    Calls Tryd.prog 10 #[evV x A cap] w fun e w' => e = .returned (.int .i64 (checkK k x)) ∧ Below w.heap.size w w' := by
  have hu24 := Tryd.underlying24
  have hu48 := Tryd.underlying48
  have hu46 := Tryd.underlying46
  have HR := Aside0.mk hr
  have HCAP := Aside0.mk hcap
  have HCL := Aside0.mk hc
  have HKK := Aside0.mk hk
  have hfl := fo_len k
  have T1 := Aside0.mk True.intro
  clear hr hcap hc hk
  go_enter Tryd.func10, Tryd.ntmps10
  go_upto_region 6 with (first
    | (go_at_call 23; clear T1; refine (form_c0 k h1 h2 HCL.out _ x (.slice A x.f7.length cap) _ HKK.out (hp_lt _ _ _ _ (heap_alloc_new _ _))).mono ?_; rintro e w1 ⟨_, rfl, ⟨AF, rfl, hF⟩, hb⟩; have BE := Aside0.mk (blk_below (hp_lt _ _ _ _ (heap_alloc_new w (.cells (evC x (.slice A x.f7.length cap)) 24))) hb); have BO := Aside0.mk (blk_below (hp_new _ (.cells (evC ⟨x.f0, 0, 0, 0, 0, 0, 0, []⟩ (.slice none 0 0)) 24) (w.heap.size + 1) (by rw [size_alloc])) hb); have FF := Aside0.mk hF; have HZ := Aside0.mk ((bel2 w (.cells (evC x (.slice A x.f7.length cap)) 24) (.cells (evC ⟨x.f0, 0, 0, 0, 0, 0, 0, []⟩ (.slice none 0 0)) 24)).trans (hb.mono (by rw [size_alloc, size_alloc]; omega))); clear hF hb)
    | (go_at_call 23; refine (form_c0 k h1 h2 HCL.out _ (⟨x.f0, 0, 0, 0, 0, 0, 0, []⟩ : S24) (.slice none 0 0) _ HKK.out (hp_lt _ _ _ _ BO.out)).mono ?_; rintro e w2 ⟨_, rfl, ⟨AG, rfl, hG⟩, hb⟩; have BF := Aside0.mk (blk_below (heap_alloc_new w1 (.cells #[.string (wordB k), .slice AF (foK k).length (foK k).length, (.pointer none), .slice none 0 0, .pointer none, .bool (liK k)] 48)) hb); have hb1 := (bel1 w1 (.cells #[.string (wordB k), .slice AF (foK k).length (foK k).length, (.pointer none), .slice none 0 0, .pointer none, .bool (liK k)] 48)).trans (hb.mono (by rw [size_alloc]; omega)); have n1_ := Aside0.mk (blk_below BE.out hb1); have n2_ := Aside0.mk (blk_below BO.out hb1); have n4_ := Aside0.mk (fun j o hj => by obtain ⟨ad, e1, e2, e3⟩ := FF.out j o hj; exact ⟨ad, e1, e2, pw_cell_below hb1 e3⟩ : ∀ (j o : Nat), (foK k)[j]? = some o → ∃ ad, AF = some ad ∧ ad.block ≠ w.heap.size ∧ w2.cell? (ad.add j) = some (.pointer (some ⟨w.heap.size, o, none⟩))); have n5_ := Aside0.mk (HZ.out.trans (hb1.mono HZ.out.size)); clear BE BO FF HZ hb1; have BE := n1_; have BO := n2_; have FF := n4_; have HZ := n5_; have GG := Aside0.mk hG; clear n1_ n2_ n4_ n5_ hG hb))
  have BG := Aside0.mk (heap_alloc_new w2 (.cells #[.string (wordB k), .slice AG (foK k).length (foK k).length, (.pointer none), .slice none 0 0, .pointer none, .bool (liK k)] 48))
  have hb2 := bel1 w2 (.cells #[.string (wordB k), .slice AG (foK k).length (foK k).length, (.pointer none), .slice none 0 0, .pointer none, .bool (liK k)] 48)
  have n1_ := Aside0.mk (blk_below BE.out hb2)
  have n2_ := Aside0.mk (blk_below BO.out hb2)
  have n6_ := Aside0.mk (blk_below BF.out hb2)
  have n5_ := Aside0.mk (HZ.out.trans (hb2.mono HZ.out.size))
  have n3_ := Aside0.mk (fun j o hj => by obtain ⟨ad, e1, e2, e3⟩ := FF.out j o hj; exact ⟨ad, e1, e2, pw_cell_below hb2 e3⟩ : ∀ (j o : Nat), (foK k)[j]? = some o → ∃ ad, AF = some ad ∧ ad.block ≠ w.heap.size ∧ (w2.alloc (.cells #[.string (wordB k), .slice AG (foK k).length (foK k).length, (.pointer none), .slice none 0 0, .pointer none, .bool (liK k)] 48)).cell? (ad.add j) = some (.pointer (some ⟨w.heap.size, o, none⟩)))
  have n4_ := Aside0.mk (fun j o hj => by obtain ⟨ad, e1, e2, e3⟩ := GG.out j o hj; exact ⟨ad, e1, e2, pw_cell_below hb2 e3⟩ : ∀ (j o : Nat), (foK k)[j]? = some o → ∃ ad, AG = some ad ∧ ad.block ≠ w.heap.size + 1 ∧ (w2.alloc (.cells #[.string (wordB k), .slice AG (foK k).length (foK k).length, (.pointer none), .slice none 0 0, .pointer none, .bool (liK k)] 48)).cell? (ad.add j) = some (.pointer (some ⟨w.heap.size + 1, o, none⟩)))
  clear hb2 FF GG BE BO BF HZ
  generalize w1.heap.size = g4 at n6_ ⊢
  generalize w2.heap.size = g6 at BG ⊢
  generalize w2.alloc (.cells #[.string (wordB k), .slice AG (foK k).length (foK k).length, (.pointer none), .slice none 0 0, .pointer none, .bool (liK k)] 48) = wz at *
  have BE := n1_
  have BO := n2_
  have BF := n6_
  have HZ := n5_
  have FF := n3_
  have GG := n4_
  clear n1_ n2_ n3_ n4_ n5_ n6_
  have NE4 := Aside0.mk (show g4 ≠ w.heap.size + 1 by rintro rfl; have h1 := BF.out.symm.trans BO.out; injection h1 with h1; injection h1 with _ h2 _; cases h2)
  have NE6 := Aside0.mk (show g6 ≠ w.heap.size + 1 by rintro rfl; have h1 := BG.out.symm.trans BO.out; injection h1 with h1; injection h1 with _ h2 _; cases h2)
  have NAF : Aside0 (∀ ad, AF = some ad → ∀ j v, wz.cell? (ad.add j) = some (.pointer v) → ad.block ≠ w.heap.size + 1) := ⟨fun ad h j v hv => by have h1 := ev_noptr BO.out hv; rwa [add_block] at h1⟩
  have y1 : wz.cell? ⟨g4, 1, none⟩ = some (.slice AF (foK k).length (foK k).length) := (blk_cell BF.out 1).trans rfl
  go_wp2_with (fail)
  clear y1
  go_loopw [26] (fun i wr => ∃ a : Nat, i = .int .i64 a ∧ a ≤ (foK k).length ∧ Aside0 (∀ o ∈ (foK k).take a, 0 ≤ getK x o) ∧ Aside0 (wr.heap[w.heap.size + 1]? = some (.cells (evC (onlyA x ((foK k).take a)) (.slice none 0 0)) 24 (0, 0))) ∧ Aside0 (Fr wz.heap.size (w.heap.size + 1) wz wr)) (fun i _ => (foK k).length - (intOf i).toNat)
  case atStart => exact ⟨0, rfl, by omega, ⟨fun o ho => by simp at ho⟩, BO, ⟨⟨rfl, rfl, rfl, Nat.le_refl _, fun _ _ _ => rfl⟩⟩⟩
  case round =>
    clear BO
    obtain ⟨a, rfl, ha, HP, BO, FR⟩ := hrel
    have y1 : wr.cell? ⟨g4, 1, none⟩ = some (.slice AF (foK k).length (foK k).length) := (blk_cell (FR.out.blk BF.out (Nat.le_refl _) NE4.out) 1).trans rfl
    by_cases hlt : a < (foK k).length
    · obtain ⟨o, ho⟩ : ∃ o, (foK k)[a]? = some o := ⟨_, List.getElem?_eq_getElem hlt⟩
      obtain ⟨ad1, hA1, hn1, hc1⟩ := FF.out a o ho
      obtain ⟨ad2, hA2, hn2, hc2⟩ := GG.out a o ho
      have hb1 := NAF.out ad1 hA1 a _ hc1
      subst hA1 hA2
      have HO6 := Aside0.mk (fo_le k o (List.mem_of_getElem? ho))
      have HOM := Aside0.mk (List.mem_of_getElem? ho)
      have x1 : wr.cell? (ad1.add a) = some (.pointer (some ⟨w.heap.size, o, none⟩)) := FR.out.cell hc1 (Nat.le_refl _) (by rw [add_block]; exact hb1)
      have x2 : wr.cell? (ad2.add a) = some (.pointer (some ⟨w.heap.size + 1, o, none⟩)) := FR.out.cell hc2 (Nat.le_refl _) (by rw [add_block]; exact hn2)
      have BE2 := Aside0.mk (FR.out.blk BE.out (Nat.le_refl _) (Nat.ne_of_lt (Nat.lt_succ_self _)))
      obtain ⟨n, hn⟩ : ∃ n, n = getK x o := ⟨_, rfl⟩
      have HNN := Aside0.mk hn
      have e1 : wr.cell? ⟨w.heap.size, o, none⟩ = some (.int .i64 n) := (blk_cell BE2.out o).trans (by rw [hn]; exact ev_get x _ o HO6.out.1 HO6.out.2)
      have o1 : wr.cell? ⟨w.heap.size + 1, o, none⟩ = some (.int .i64 (getK (onlyA x ((foK k).take a)) o)) := (blk_cell BO.out o).trans (ev_get _ _ o HO6.out.1 HO6.out.2)
      have q1 : wr.frozen? ⟨w.heap.size + 1, o, none⟩ = false := Lib.frozen_of_heap BO.out o
      have z1 : wr.cell? ⟨g6, 1, none⟩ = some (.slice (some ad2) (foK k).length (foK k).length) := (blk_cell (FR.out.blk BG.out (Nat.le_refl _) NE6.out) 1).trans rfl
      have HT : Aside0 ((foK k).take (a + 1) = (foK k).take a ++ [o]) := ⟨by rw [List.take_add_one, ho]; rfl⟩
      clear hc1 hc2 hn1 hn2 hb1 ho hn
      by_cases hneg : n < 0
      · have d1 : decide (n < 0) = true := decide_eq_true hneg
        have HRS := Aside0.mk (ok_neg k o x HOM.out (HNN.out ▸ hneg))
        clear hneg
        go_wp2_with (fail)
        go_ret
        exact ⟨ret_int HRS.out.symm, HZ.out.trans (FR.out.below HZ.out.size (Nat.le_succ _))⟩
      · have d1 : decide (n < 0) = false := decide_eq_false hneg
        have HNG := Aside0.mk hneg
        clear hneg
        go_wp2_with (fail)
        go_region
        go_wp2_with (fail)
        go_roundw
        case rel => exact ⟨a + 1, by go_num, by omega, ⟨fun p hp => by rw [HT.out] at hp; rcases List.mem_append.1 hp with hp | hp; exact HP.out p hp; rw [List.mem_singleton] at hp; rw [hp, ← HNN.out]; have := HNG.out; omega⟩, ⟨by rw [HT.out, onlyA_snoc, ← HNN.out]; exact blk_put (w := wr) BO.out o _ (setK_cells _ _ n o HO6.out.1 HO6.out.2)⟩, ⟨by have h := fr_set (w1 := wr) FR.out o (.int .i64 n); exact ⟨h.os, h.tape, h.output, h.size, h.block⟩⟩⟩
        case measure => simp [intOf]; omega
    · obtain rfl : a = (foK k).length := by omega
      rw [List.take_length] at HP BO
      have HZ2 := Aside0.mk (HZ.out.trans (FR.out.below HZ.out.size (Nat.le_succ _)))
      have BE2 := Aside0.mk (FR.out.blk BE.out (Nat.le_refl _) (Nat.ne_of_lt (Nat.lt_succ_self _)))
      have BF2 := Aside0.mk (FR.out.blk BF.out (Nat.le_refl _) NE4.out)
      have BG2 := Aside0.mk (FR.out.blk BG.out (Nat.le_refl _) NE6.out)
      have y2 : wr.cell? ⟨g4, 2, none⟩ = some (.pointer none) := (blk_cell BF2.out 2).trans rfl
      have y3 : wr.cell? ⟨g4, 3, none⟩ = some (.slice none 0 0) := (blk_cell BF2.out 3).trans rfl
      have y5 : wr.cell? ⟨g4, 5, none⟩ = some (.bool (liK k)) := (blk_cell BF2.out 5).trans rfl
      clear y1 hlt ha
      have HON : Aside0 (onlyK k x = ⟨(onlyA x (foK k)).f0, (onlyA x (foK k)).f1, (onlyA x (foK k)).f2, (onlyA x (foK k)).f3, (onlyA x (foK k)).f4, (onlyA x (foK k)).f5, (onlyA x (foK k)).f6, if liK k then x.f7 else []⟩) := ⟨by unfold onlyK; rw [show atK k = foK k by unfold atK; rw [HCL.out]; simp]⟩
      cases hli : liK k with
      | false =>
        rw [hli] at y5 HON
        simp only [Bool.false_eq_true, if_false] at HON
        clear hli BE BF BG
        have BE := BE2
        clear BE2 BF2 BG2
        by_cases hs : sameP x (onlyK k x)
        · have SM := Aside0.mk hs
          rw [HON.out] at SM
          cases hri : risesB x.f7 with
          | true =>
            have RI := Aside0.mk hri
            have HRS : Aside0 (checkK k x = 0) := ⟨check_is k (by rw [HCL.out]; decide) h1 h2 x HKK.out HP.out true ⟨fun _ => ⟨hs, hri⟩, fun _ => rfl⟩⟩
            clear hs hri
            go_wp2_with (first
              | (refine wpList_load_row rfl 24 (.tmp 1) rfl w.heap.size rfl 24 (evC x (.slice A x.f7.length cap)) (0, 0) _ BE.out Tryd.underlying24 rfl (by kernel_rfl) ?_)
              | (refine wpList_load_row rfl 24 (.tmp 3) rfl (w.heap.size + 1) rfl 24 (evC (onlyA x (foK k)) (.slice none 0 0)) (0, 0) _ BO.out Tryd.underlying24 rfl (by kernel_rfl) ?_)
              | (go_at_call 24; refine (same_yes x (⟨(onlyA x (foK k)).f0, (onlyA x (foK k)).f1, (onlyA x (foK k)).f2, (onlyA x (foK k)).f3, (onlyA x (foK k)).f4, (onlyA x (foK k)).f5, (onlyA x (foK k)).f6, []⟩ : S24) A none cap 0 _ (Kd.C_below HR.out HZ2.out) HCAP.out (Kd.C_nil _ _) (Nat.le_refl _) SM.out).mono ?_; rintro e wq ⟨rfl, hb⟩; have x7 : wq.cell? ⟨w.heap.size, 7, none⟩ = some (.slice A x.f7.length cap) := cell_keep BE.out hb rfl; have HB2 := Aside0.mk (below_then HZ2.out HZ2.out.size hb); clear HZ2 hb; have HZ2 := HB2; clear HB2)
              | (go_at_call 25; refine (rises_any x.f7 A cap _ (Kd.C_below HR.out HZ2.out) HCAP.out _ RI.out).mono ?_; rintro e wr ⟨rfl, hd⟩; have HB2 := Aside0.mk (below_then HZ2.out HZ2.out.size hd.below); clear HZ2 hd; have HZ2 := HB2; clear HB2))
            go_ret
            exact ⟨ret_int HRS.out.symm, HZ2.out⟩
          | false =>
            have RI := Aside0.mk hri
            have HRS : Aside0 (checkK k x = 180) := ⟨check_is k (by rw [HCL.out]; decide) h1 h2 x HKK.out HP.out false ⟨fun h => (Bool.noConfusion h), fun h => by rw [hri] at h; exact h.2⟩⟩
            clear hs hri
            go_wp2_with (first
              | (refine wpList_load_row rfl 24 (.tmp 1) rfl w.heap.size rfl 24 (evC x (.slice A x.f7.length cap)) (0, 0) _ BE.out Tryd.underlying24 rfl (by kernel_rfl) ?_)
              | (refine wpList_load_row rfl 24 (.tmp 3) rfl (w.heap.size + 1) rfl 24 (evC (onlyA x (foK k)) (.slice none 0 0)) (0, 0) _ BO.out Tryd.underlying24 rfl (by kernel_rfl) ?_)
              | (go_at_call 24; refine (same_yes x (⟨(onlyA x (foK k)).f0, (onlyA x (foK k)).f1, (onlyA x (foK k)).f2, (onlyA x (foK k)).f3, (onlyA x (foK k)).f4, (onlyA x (foK k)).f5, (onlyA x (foK k)).f6, []⟩ : S24) A none cap 0 _ (Kd.C_below HR.out HZ2.out) HCAP.out (Kd.C_nil _ _) (Nat.le_refl _) SM.out).mono ?_; rintro e wq ⟨rfl, hb⟩; have x7 : wq.cell? ⟨w.heap.size, 7, none⟩ = some (.slice A x.f7.length cap) := cell_keep BE.out hb rfl; have HB2 := Aside0.mk (below_then HZ2.out HZ2.out.size hb); clear HZ2 hb; have HZ2 := HB2; clear HB2)
              | (go_at_call 25; refine (rises_any x.f7 A cap _ (Kd.C_below HR.out HZ2.out) HCAP.out _ RI.out).mono ?_; rintro e wr ⟨rfl, hd⟩; have HB2 := Aside0.mk (below_then HZ2.out HZ2.out.size hd.below); clear HZ2 hd; have HZ2 := HB2; clear HB2))
            go_ret
            exact ⟨ret_int HRS.out.symm, HZ2.out⟩
        · have SM := Aside0.mk hs
          rw [HON.out] at SM
          have HRS : Aside0 (checkK k x = 180) := ⟨check_is k (by rw [HCL.out]; decide) h1 h2 x HKK.out HP.out false ⟨fun h => (Bool.noConfusion h), fun h => absurd h.1 hs⟩⟩
          clear hs
          go_wp2_with (first
            | (refine wpList_load_row rfl 24 (.tmp 1) rfl w.heap.size rfl 24 (evC x (.slice A x.f7.length cap)) (0, 0) _ BE.out Tryd.underlying24 rfl (by kernel_rfl) ?_)
            | (refine wpList_load_row rfl 24 (.tmp 3) rfl (w.heap.size + 1) rfl 24 (evC (onlyA x (foK k)) (.slice none 0 0)) (0, 0) _ BO.out Tryd.underlying24 rfl (by kernel_rfl) ?_)
            | (go_at_call 24; refine (same_no x (⟨(onlyA x (foK k)).f0, (onlyA x (foK k)).f1, (onlyA x (foK k)).f2, (onlyA x (foK k)).f3, (onlyA x (foK k)).f4, (onlyA x (foK k)).f5, (onlyA x (foK k)).f6, []⟩ : S24) A none cap 0 _ (Kd.C_below HR.out HZ2.out) HCAP.out (Kd.C_nil _ _) (Nat.le_refl _) SM.out).mono ?_; rintro e wq ⟨rfl, hb⟩; have x7 : wq.cell? ⟨w.heap.size, 7, none⟩ = some (.slice A x.f7.length cap) := cell_keep BE.out hb rfl; have HB2 := Aside0.mk (below_then HZ2.out HZ2.out.size hb); clear HZ2 hb; have HZ2 := HB2; clear HB2)
            | (go_at_call 25; refine (rises_any x.f7 A cap _ (Kd.C_below HR.out HZ2.out) HCAP.out _ RI.out).mono ?_; rintro e wr ⟨rfl, hd⟩; have HB2 := Aside0.mk (below_then HZ2.out HZ2.out.size hd.below); clear HZ2 hd; have HZ2 := HB2; clear HB2))
          go_ret
          exact ⟨ret_int HRS.out.symm, HZ2.out⟩
      | true =>
        rw [hli] at y5 HON
        simp only [if_true] at HON
        have e7 : wr.cell? ⟨w.heap.size, 7, none⟩ = some (.slice A x.f7.length cap) := (blk_cell BE2.out 7).trans rfl
        have o7 : wr.cell? ⟨w.heap.size + 1, 7, none⟩ = some (.slice none 0 0) := (blk_cell BO.out 7).trans rfl
        have q7 : wr.frozen? ⟨w.heap.size + 1, 7, none⟩ = false := Lib.frozen_of_heap BO.out 7
        go_upto_region 21 with (fail)
        have BE3 : Aside0 ((wr.setCell ⟨w.heap.size + 1, 7, none⟩ (.slice A x.f7.length cap)).heap[w.heap.size]? = some (.cells (evC x (.slice A x.f7.length cap)) 24 (0, 0))) := ⟨hp_setne wr _ _ _ 7 _ (by omega) BE2.out⟩
        have BO3 : Aside0 ((wr.setCell ⟨w.heap.size + 1, 7, none⟩ (.slice A x.f7.length cap)).heap[w.heap.size + 1]? = some (.cells (evC (onlyA x (foK k)) (.slice A x.f7.length cap)) 24 (0, 0))) := ⟨blk_put (w := wr) BO.out 7 _ rfl⟩
        have HZ3 : Aside0 (Below w.heap.size w (wr.setCell ⟨w.heap.size + 1, 7, none⟩ (.slice A x.f7.length cap))) := ⟨Below.setCell HZ2.out (p := ⟨w.heap.size + 1, 7, none⟩) (Nat.le_succ _) _⟩
        clear hli BE BF BG BE2 BF2 BG2 BO HZ2 y2 y3 y5 e7 o7 q7
        generalize wr.setCell ⟨w.heap.size + 1, 7, none⟩ (.slice A x.f7.length cap) = wu at BE3 BO3 HZ3 ⊢
        have BE := BE3
        have BO := BO3
        have HZ2 := HZ3
        clear BE3 BO3 HZ3
        by_cases hs : sameP x (onlyK k x)
        · have SM := Aside0.mk hs
          rw [HON.out] at SM
          cases hri : risesB x.f7 with
          | true =>
            have RI := Aside0.mk hri
            have HRS : Aside0 (checkK k x = 0) := ⟨check_is k (by rw [HCL.out]; decide) h1 h2 x HKK.out HP.out true ⟨fun _ => ⟨hs, hri⟩, fun _ => rfl⟩⟩
            clear hs hri
            go_wp2_with (first
              | (refine wpList_load_row rfl 24 (.tmp 1) rfl w.heap.size rfl 24 (evC x (.slice A x.f7.length cap)) (0, 0) _ BE.out Tryd.underlying24 rfl (by kernel_rfl) ?_)
              | (refine wpList_load_row rfl 24 (.tmp 3) rfl (w.heap.size + 1) rfl 24 (evC (onlyA x (foK k)) (.slice A x.f7.length cap)) (0, 0) _ BO.out Tryd.underlying24 rfl (by kernel_rfl) ?_)
              | (go_at_call 24; refine (same_yes x (⟨(onlyA x (foK k)).f0, (onlyA x (foK k)).f1, (onlyA x (foK k)).f2, (onlyA x (foK k)).f3, (onlyA x (foK k)).f4, (onlyA x (foK k)).f5, (onlyA x (foK k)).f6, x.f7⟩ : S24) A A cap cap _ (Kd.C_below HR.out HZ2.out) HCAP.out (Kd.C_below HR.out HZ2.out) HCAP.out SM.out).mono ?_; rintro e wq ⟨rfl, hb⟩; have x7 : wq.cell? ⟨w.heap.size, 7, none⟩ = some (.slice A x.f7.length cap) := cell_keep BE.out hb rfl; have HB2 := Aside0.mk (below_then HZ2.out HZ2.out.size hb); clear HZ2 hb; have HZ2 := HB2; clear HB2)
              | (go_at_call 25; refine (rises_any x.f7 A cap _ (Kd.C_below HR.out HZ2.out) HCAP.out _ RI.out).mono ?_; rintro e wr ⟨rfl, hd⟩; have HB2 := Aside0.mk (below_then HZ2.out HZ2.out.size hd.below); clear HZ2 hd; have HZ2 := HB2; clear HB2))
            go_ret
            exact ⟨ret_int HRS.out.symm, HZ2.out⟩
          | false =>
            have RI := Aside0.mk hri
            have HRS : Aside0 (checkK k x = 180) := ⟨check_is k (by rw [HCL.out]; decide) h1 h2 x HKK.out HP.out false ⟨fun h => (Bool.noConfusion h), fun h => by rw [hri] at h; exact h.2⟩⟩
            clear hs hri
            go_wp2_with (first
              | (refine wpList_load_row rfl 24 (.tmp 1) rfl w.heap.size rfl 24 (evC x (.slice A x.f7.length cap)) (0, 0) _ BE.out Tryd.underlying24 rfl (by kernel_rfl) ?_)
              | (refine wpList_load_row rfl 24 (.tmp 3) rfl (w.heap.size + 1) rfl 24 (evC (onlyA x (foK k)) (.slice A x.f7.length cap)) (0, 0) _ BO.out Tryd.underlying24 rfl (by kernel_rfl) ?_)
              | (go_at_call 24; refine (same_yes x (⟨(onlyA x (foK k)).f0, (onlyA x (foK k)).f1, (onlyA x (foK k)).f2, (onlyA x (foK k)).f3, (onlyA x (foK k)).f4, (onlyA x (foK k)).f5, (onlyA x (foK k)).f6, x.f7⟩ : S24) A A cap cap _ (Kd.C_below HR.out HZ2.out) HCAP.out (Kd.C_below HR.out HZ2.out) HCAP.out SM.out).mono ?_; rintro e wq ⟨rfl, hb⟩; have x7 : wq.cell? ⟨w.heap.size, 7, none⟩ = some (.slice A x.f7.length cap) := cell_keep BE.out hb rfl; have HB2 := Aside0.mk (below_then HZ2.out HZ2.out.size hb); clear HZ2 hb; have HZ2 := HB2; clear HB2)
              | (go_at_call 25; refine (rises_any x.f7 A cap _ (Kd.C_below HR.out HZ2.out) HCAP.out _ RI.out).mono ?_; rintro e wr ⟨rfl, hd⟩; have HB2 := Aside0.mk (below_then HZ2.out HZ2.out.size hd.below); clear HZ2 hd; have HZ2 := HB2; clear HB2))
            go_ret
            exact ⟨ret_int HRS.out.symm, HZ2.out⟩
        · have SM := Aside0.mk hs
          rw [HON.out] at SM
          have HRS : Aside0 (checkK k x = 180) := ⟨check_is k (by rw [HCL.out]; decide) h1 h2 x HKK.out HP.out false ⟨fun h => (Bool.noConfusion h), fun h => absurd h.1 hs⟩⟩
          clear hs
          go_wp2_with (first
            | (refine wpList_load_row rfl 24 (.tmp 1) rfl w.heap.size rfl 24 (evC x (.slice A x.f7.length cap)) (0, 0) _ BE.out Tryd.underlying24 rfl (by kernel_rfl) ?_)
            | (refine wpList_load_row rfl 24 (.tmp 3) rfl (w.heap.size + 1) rfl 24 (evC (onlyA x (foK k)) (.slice A x.f7.length cap)) (0, 0) _ BO.out Tryd.underlying24 rfl (by kernel_rfl) ?_)
            | (go_at_call 24; refine (same_no x (⟨(onlyA x (foK k)).f0, (onlyA x (foK k)).f1, (onlyA x (foK k)).f2, (onlyA x (foK k)).f3, (onlyA x (foK k)).f4, (onlyA x (foK k)).f5, (onlyA x (foK k)).f6, x.f7⟩ : S24) A A cap cap _ (Kd.C_below HR.out HZ2.out) HCAP.out (Kd.C_below HR.out HZ2.out) HCAP.out SM.out).mono ?_; rintro e wq ⟨rfl, hb⟩; have x7 : wq.cell? ⟨w.heap.size, 7, none⟩ = some (.slice A x.f7.length cap) := cell_keep BE.out hb rfl; have HB2 := Aside0.mk (below_then HZ2.out HZ2.out.size hb); clear HZ2 hb; have HZ2 := HB2; clear HB2)
            | (go_at_call 25; refine (rises_any x.f7 A cap _ (Kd.C_below HR.out HZ2.out) HCAP.out _ RI.out).mono ?_; rintro e wr ⟨rfl, hd⟩; have HB2 := Aside0.mk (below_then HZ2.out HZ2.out.size hd.below); clear HZ2 hd; have HZ2 := HB2; clear HB2))
          go_ret
          exact ⟨ret_int HRS.out.symm, HZ2.out⟩
set_option maxRecDepth 100000 in
set_option maxHeartbeats 8000000 in
theorem check_c1 (k : Nat) (h1 : 1 ≤ k) (h2 : k ≤ 11) (hc : clsK k = 1) (x : S24) (hk : x.f0 = k) (A : Option Addr) (cap : Nat) (w : World) (hr : Kd.C (Kd.int .i64) w A x.f7.length x.f7) (hcap : x.f7.length ≤ cap) :
    Calls Tryd.prog 10 #[evV x A cap] w fun e w' => e = .returned (.int .i64 (checkK k x)) ∧ Below w.heap.size w w' := by
  have hu24 := Tryd.underlying24
  have hu48 := Tryd.underlying48
  have hu46 := Tryd.underlying46
  have HR := Aside0.mk hr
  have HCAP := Aside0.mk hcap
  have HCL := Aside0.mk hc
  have HKK := Aside0.mk hk
  have hfl := fo_len k
  have T1 := Aside0.mk True.intro
  clear hr hcap hc hk
  go_enter Tryd.func10, Tryd.ntmps10
  go_upto_region 6 with (first
    | (go_at_call 23; clear T1; refine (form_c1 k h1 h2 HCL.out _ x (.slice A x.f7.length cap) _ HKK.out (hp_lt _ _ _ _ (heap_alloc_new _ _))).mono ?_; rintro e w1 ⟨_, rfl, ⟨AF, rfl, hF⟩, hb⟩; have BE := Aside0.mk (blk_below (hp_lt _ _ _ _ (heap_alloc_new w (.cells (evC x (.slice A x.f7.length cap)) 24))) hb); have BO := Aside0.mk (blk_below (hp_new _ (.cells (evC ⟨x.f0, 0, 0, 0, 0, 0, 0, []⟩ (.slice none 0 0)) 24) (w.heap.size + 1) (by rw [size_alloc])) hb); have FF := Aside0.mk hF; have HZ := Aside0.mk ((bel2 w (.cells (evC x (.slice A x.f7.length cap)) 24) (.cells (evC ⟨x.f0, 0, 0, 0, 0, 0, 0, []⟩ (.slice none 0 0)) 24)).trans (hb.mono (by rw [size_alloc, size_alloc]; omega))); clear hF hb)
    | (go_at_call 23; refine (form_c1 k h1 h2 HCL.out _ (⟨x.f0, 0, 0, 0, 0, 0, 0, []⟩ : S24) (.slice none 0 0) _ HKK.out (hp_lt _ _ _ _ BO.out)).mono ?_; rintro e w2 ⟨_, rfl, ⟨AG, rfl, hG⟩, hb⟩; have BF := Aside0.mk (blk_below (heap_alloc_new w1 (.cells #[.string (wordB k), .slice AF (foK k).length (foK k).length, (.pointer (some ⟨w.heap.size, 6, none⟩)), .slice none 0 0, .pointer none, .bool false] 48)) hb); have hb1 := (bel1 w1 (.cells #[.string (wordB k), .slice AF (foK k).length (foK k).length, (.pointer (some ⟨w.heap.size, 6, none⟩)), .slice none 0 0, .pointer none, .bool false] 48)).trans (hb.mono (by rw [size_alloc]; omega)); have n1_ := Aside0.mk (blk_below BE.out hb1); have n2_ := Aside0.mk (blk_below BO.out hb1); have n4_ := Aside0.mk (fun j o hj => by obtain ⟨ad, e1, e2, e3⟩ := FF.out j o hj; exact ⟨ad, e1, e2, pw_cell_below hb1 e3⟩ : ∀ (j o : Nat), (foK k)[j]? = some o → ∃ ad, AF = some ad ∧ ad.block ≠ w.heap.size ∧ w2.cell? (ad.add j) = some (.pointer (some ⟨w.heap.size, o, none⟩))); have n5_ := Aside0.mk (HZ.out.trans (hb1.mono HZ.out.size)); clear BE BO FF HZ hb1; have BE := n1_; have BO := n2_; have FF := n4_; have HZ := n5_; have GG := Aside0.mk hG; clear n1_ n2_ n4_ n5_ hG hb))
  have BG := Aside0.mk (heap_alloc_new w2 (.cells #[.string (wordB k), .slice AG (foK k).length (foK k).length, (.pointer (some ⟨w.heap.size + 1, 6, none⟩)), .slice none 0 0, .pointer none, .bool false] 48))
  have hb2 := bel1 w2 (.cells #[.string (wordB k), .slice AG (foK k).length (foK k).length, (.pointer (some ⟨w.heap.size + 1, 6, none⟩)), .slice none 0 0, .pointer none, .bool false] 48)
  have n1_ := Aside0.mk (blk_below BE.out hb2)
  have n2_ := Aside0.mk (blk_below BO.out hb2)
  have n6_ := Aside0.mk (blk_below BF.out hb2)
  have n5_ := Aside0.mk (HZ.out.trans (hb2.mono HZ.out.size))
  have n3_ := Aside0.mk (fun j o hj => by obtain ⟨ad, e1, e2, e3⟩ := FF.out j o hj; exact ⟨ad, e1, e2, pw_cell_below hb2 e3⟩ : ∀ (j o : Nat), (foK k)[j]? = some o → ∃ ad, AF = some ad ∧ ad.block ≠ w.heap.size ∧ (w2.alloc (.cells #[.string (wordB k), .slice AG (foK k).length (foK k).length, (.pointer (some ⟨w.heap.size + 1, 6, none⟩)), .slice none 0 0, .pointer none, .bool false] 48)).cell? (ad.add j) = some (.pointer (some ⟨w.heap.size, o, none⟩)))
  have n4_ := Aside0.mk (fun j o hj => by obtain ⟨ad, e1, e2, e3⟩ := GG.out j o hj; exact ⟨ad, e1, e2, pw_cell_below hb2 e3⟩ : ∀ (j o : Nat), (foK k)[j]? = some o → ∃ ad, AG = some ad ∧ ad.block ≠ w.heap.size + 1 ∧ (w2.alloc (.cells #[.string (wordB k), .slice AG (foK k).length (foK k).length, (.pointer (some ⟨w.heap.size + 1, 6, none⟩)), .slice none 0 0, .pointer none, .bool false] 48)).cell? (ad.add j) = some (.pointer (some ⟨w.heap.size + 1, o, none⟩)))
  clear hb2 FF GG BE BO BF HZ
  generalize w1.heap.size = g4 at n6_ ⊢
  generalize w2.heap.size = g6 at BG ⊢
  generalize w2.alloc (.cells #[.string (wordB k), .slice AG (foK k).length (foK k).length, (.pointer (some ⟨w.heap.size + 1, 6, none⟩)), .slice none 0 0, .pointer none, .bool false] 48) = wz at *
  have BE := n1_
  have BO := n2_
  have BF := n6_
  have HZ := n5_
  have FF := n3_
  have GG := n4_
  clear n1_ n2_ n3_ n4_ n5_ n6_
  have NE4 := Aside0.mk (show g4 ≠ w.heap.size + 1 by rintro rfl; have h1 := BF.out.symm.trans BO.out; injection h1 with h1; injection h1 with _ h2 _; cases h2)
  have NE6 := Aside0.mk (show g6 ≠ w.heap.size + 1 by rintro rfl; have h1 := BG.out.symm.trans BO.out; injection h1 with h1; injection h1 with _ h2 _; cases h2)
  have NAF : Aside0 (∀ ad, AF = some ad → ∀ j v, wz.cell? (ad.add j) = some (.pointer v) → ad.block ≠ w.heap.size + 1) := ⟨fun ad h j v hv => by have h1 := ev_noptr BO.out hv; rwa [add_block] at h1⟩
  have y1 : wz.cell? ⟨g4, 1, none⟩ = some (.slice AF (foK k).length (foK k).length) := (blk_cell BF.out 1).trans rfl
  go_wp2_with (fail)
  clear y1
  go_loopw [26] (fun i wr => ∃ a : Nat, i = .int .i64 a ∧ a ≤ (foK k).length ∧ Aside0 (∀ o ∈ (foK k).take a, 0 ≤ getK x o) ∧ Aside0 (wr.heap[w.heap.size + 1]? = some (.cells (evC (onlyA x ((foK k).take a)) (.slice none 0 0)) 24 (0, 0))) ∧ Aside0 (Fr wz.heap.size (w.heap.size + 1) wz wr)) (fun i _ => (foK k).length - (intOf i).toNat)
  case atStart => exact ⟨0, rfl, by omega, ⟨fun o ho => by simp at ho⟩, BO, ⟨⟨rfl, rfl, rfl, Nat.le_refl _, fun _ _ _ => rfl⟩⟩⟩
  case round =>
    clear BO
    obtain ⟨a, rfl, ha, HP, BO, FR⟩ := hrel
    have y1 : wr.cell? ⟨g4, 1, none⟩ = some (.slice AF (foK k).length (foK k).length) := (blk_cell (FR.out.blk BF.out (Nat.le_refl _) NE4.out) 1).trans rfl
    by_cases hlt : a < (foK k).length
    · obtain ⟨o, ho⟩ : ∃ o, (foK k)[a]? = some o := ⟨_, List.getElem?_eq_getElem hlt⟩
      obtain ⟨ad1, hA1, hn1, hc1⟩ := FF.out a o ho
      obtain ⟨ad2, hA2, hn2, hc2⟩ := GG.out a o ho
      have hb1 := NAF.out ad1 hA1 a _ hc1
      subst hA1 hA2
      have HO6 := Aside0.mk (fo_le k o (List.mem_of_getElem? ho))
      have HOM := Aside0.mk (List.mem_of_getElem? ho)
      have x1 : wr.cell? (ad1.add a) = some (.pointer (some ⟨w.heap.size, o, none⟩)) := FR.out.cell hc1 (Nat.le_refl _) (by rw [add_block]; exact hb1)
      have x2 : wr.cell? (ad2.add a) = some (.pointer (some ⟨w.heap.size + 1, o, none⟩)) := FR.out.cell hc2 (Nat.le_refl _) (by rw [add_block]; exact hn2)
      have BE2 := Aside0.mk (FR.out.blk BE.out (Nat.le_refl _) (Nat.ne_of_lt (Nat.lt_succ_self _)))
      obtain ⟨n, hn⟩ : ∃ n, n = getK x o := ⟨_, rfl⟩
      have HNN := Aside0.mk hn
      have e1 : wr.cell? ⟨w.heap.size, o, none⟩ = some (.int .i64 n) := (blk_cell BE2.out o).trans (by rw [hn]; exact ev_get x _ o HO6.out.1 HO6.out.2)
      have o1 : wr.cell? ⟨w.heap.size + 1, o, none⟩ = some (.int .i64 (getK (onlyA x ((foK k).take a)) o)) := (blk_cell BO.out o).trans (ev_get _ _ o HO6.out.1 HO6.out.2)
      have q1 : wr.frozen? ⟨w.heap.size + 1, o, none⟩ = false := Lib.frozen_of_heap BO.out o
      have z1 : wr.cell? ⟨g6, 1, none⟩ = some (.slice (some ad2) (foK k).length (foK k).length) := (blk_cell (FR.out.blk BG.out (Nat.le_refl _) NE6.out) 1).trans rfl
      have HT : Aside0 ((foK k).take (a + 1) = (foK k).take a ++ [o]) := ⟨by rw [List.take_add_one, ho]; rfl⟩
      clear hc1 hc2 hn1 hn2 hb1 ho hn
      by_cases hneg : n < 0
      · have d1 : decide (n < 0) = true := decide_eq_true hneg
        have HRS := Aside0.mk (ok_neg k o x HOM.out (HNN.out ▸ hneg))
        clear hneg
        go_wp2_with (fail)
        go_ret
        exact ⟨ret_int HRS.out.symm, HZ.out.trans (FR.out.below HZ.out.size (Nat.le_succ _))⟩
      · have d1 : decide (n < 0) = false := decide_eq_false hneg
        have HNG := Aside0.mk hneg
        clear hneg
        go_wp2_with (fail)
        go_region
        go_wp2_with (fail)
        go_roundw
        case rel => exact ⟨a + 1, by go_num, by omega, ⟨fun p hp => by rw [HT.out] at hp; rcases List.mem_append.1 hp with hp | hp; exact HP.out p hp; rw [List.mem_singleton] at hp; rw [hp, ← HNN.out]; have := HNG.out; omega⟩, ⟨by rw [HT.out, onlyA_snoc, ← HNN.out]; exact blk_put (w := wr) BO.out o _ (setK_cells _ _ n o HO6.out.1 HO6.out.2)⟩, ⟨by have h := fr_set (w1 := wr) FR.out o (.int .i64 n); exact ⟨h.os, h.tape, h.output, h.size, h.block⟩⟩⟩
        case measure => simp [intOf]; omega
    · obtain rfl : a = (foK k).length := by omega
      rw [List.take_length] at HP BO
      have HZ2 := Aside0.mk (HZ.out.trans (FR.out.below HZ.out.size (Nat.le_succ _)))
      have BE2 := Aside0.mk (FR.out.blk BE.out (Nat.le_refl _) (Nat.ne_of_lt (Nat.lt_succ_self _)))
      have BF2 := Aside0.mk (FR.out.blk BF.out (Nat.le_refl _) NE4.out)
      have BG2 := Aside0.mk (FR.out.blk BG.out (Nat.le_refl _) NE6.out)
      have y2 : wr.cell? ⟨g4, 2, none⟩ = some (.pointer (some ⟨w.heap.size, 6, none⟩)) := (blk_cell BF2.out 2).trans rfl
      have y3 : wr.cell? ⟨g4, 3, none⟩ = some (.slice none 0 0) := (blk_cell BF2.out 3).trans rfl
      have y5 : wr.cell? ⟨g4, 5, none⟩ = some (.bool false) := (blk_cell BF2.out 5).trans rfl
      clear y1 hlt ha
      have HON : Aside0 (onlyK k x = ⟨(onlyA x (atK k)).f0, (onlyA x (atK k)).f1, (onlyA x (atK k)).f2, (onlyA x (atK k)).f3, (onlyA x (atK k)).f4, (onlyA x (atK k)).f5, (onlyA x (atK k)).f6, []⟩) := ⟨by unfold onlyK; rw [show liK k = false from li_c1 k HCL.out]; simp⟩
      have HAT : Aside0 (onlyA x (atK k) = setK (onlyA x (foK k)) x.f6 6) := ⟨by rw [show atK k = foK k ++ [6] by unfold atK; rw [HCL.out]; simp, onlyA_snoc]; rfl⟩
      have z2 : wr.cell? ⟨g6, 2, none⟩ = some (.pointer (some ⟨w.heap.size + 1, 6, none⟩)) := (blk_cell BG2.out 2).trans rfl
      have e6 : wr.cell? ⟨w.heap.size, 6, none⟩ = some (.int .i64 x.f6) := (blk_cell BE2.out 6).trans rfl
      have o6 : wr.cell? ⟨w.heap.size + 1, 6, none⟩ = some (.int .i64 (onlyA x (foK k)).f6) := (blk_cell BO.out 6).trans rfl
      have q6 : wr.frozen? ⟨w.heap.size + 1, 6, none⟩ = false := Lib.frozen_of_heap BO.out 6
      go_wp2_with (fail)
      go_region
      have BE3 : Aside0 ((wr.setCell ⟨w.heap.size + 1, 6, none⟩ (.int .i64 x.f6)).drew.heap[w.heap.size]? = some (.cells (evC x (.slice A x.f7.length cap)) 24 (0, 0))) := ⟨hp_setne wr _ _ _ 6 _ (by omega) BE2.out⟩
      have BO3 : Aside0 ((wr.setCell ⟨w.heap.size + 1, 6, none⟩ (.int .i64 x.f6)).drew.heap[w.heap.size + 1]? = some (.cells (evC (onlyA x (atK k)) (.slice none 0 0)) 24 (0, 0))) := ⟨by rw [HAT.out]; exact blk_put (w := wr) BO.out 6 _ (setK_cells _ _ x.f6 6 (by omega) (by omega))⟩
      have BF3 : Aside0 ((wr.setCell ⟨w.heap.size + 1, 6, none⟩ (.int .i64 x.f6)).drew.heap[g4]? = some (.cells #[.string (wordB k), .slice AF (foK k).length (foK k).length, (.pointer (some ⟨w.heap.size, 6, none⟩)), .slice none 0 0, .pointer none, .bool false] 48 (0, 0))) := ⟨hp_setne wr _ _ _ 6 _ NE4.out BF2.out⟩
      have HZ3 : Aside0 (Below w.heap.size w (wr.setCell ⟨w.heap.size + 1, 6, none⟩ (.int .i64 x.f6)).drew) := ⟨below_drew (Below.setCell HZ2.out (p := ⟨w.heap.size + 1, 6, none⟩) (Nat.le_succ _) _)⟩
      clear BE BF BG BE2 BF2 BG2 BO HZ2 y2 y3 y5 z2 e6 o6 q6
      generalize (wr.setCell ⟨w.heap.size + 1, 6, none⟩ (.int .i64 x.f6)).drew = wu at BE3 BO3 BF3 HZ3 ⊢
      have BE := BE3
      have BO := BO3
      have HZ2 := HZ3
      have y3 : wu.cell? ⟨g4, 3, none⟩ = some (.slice none 0 0) := (blk_cell BF3.out 3).trans rfl
      have y5 : wu.cell? ⟨g4, 5, none⟩ = some (.bool false) := (blk_cell BF3.out 5).trans rfl
      clear BE3 BO3 HZ3 BF3
      by_cases hs : sameP x (onlyK k x)
      · have SM := Aside0.mk hs
        rw [HON.out] at SM
        cases hri : risesB x.f7 with
        | true =>
          have RI := Aside0.mk hri
          have HRS : Aside0 (checkK k x = 0) := ⟨check_is k (by rw [HCL.out]; decide) h1 h2 x HKK.out HP.out true ⟨fun _ => ⟨hs, hri⟩, fun _ => rfl⟩⟩
          clear hs hri
          go_wp2_with (first
            | (refine wpList_load_row rfl 24 (.tmp 1) rfl w.heap.size rfl 24 (evC x (.slice A x.f7.length cap)) (0, 0) _ BE.out Tryd.underlying24 rfl (by kernel_rfl) ?_)
            | (refine wpList_load_row rfl 24 (.tmp 3) rfl (w.heap.size + 1) rfl 24 (evC (onlyA x (atK k)) (.slice none 0 0)) (0, 0) _ BO.out Tryd.underlying24 rfl (by kernel_rfl) ?_)
            | (go_at_call 24; refine (same_yes x (⟨(onlyA x (atK k)).f0, (onlyA x (atK k)).f1, (onlyA x (atK k)).f2, (onlyA x (atK k)).f3, (onlyA x (atK k)).f4, (onlyA x (atK k)).f5, (onlyA x (atK k)).f6, []⟩ : S24) A none cap 0 _ (Kd.C_below HR.out HZ2.out) HCAP.out (Kd.C_nil _ _) (Nat.le_refl _) SM.out).mono ?_; rintro e wq ⟨rfl, hb⟩; have x7 : wq.cell? ⟨w.heap.size, 7, none⟩ = some (.slice A x.f7.length cap) := cell_keep BE.out hb rfl; have HB2 := Aside0.mk (below_then HZ2.out HZ2.out.size hb); clear HZ2 hb; have HZ2 := HB2; clear HB2)
            | (go_at_call 25; refine (rises_any x.f7 A cap _ (Kd.C_below HR.out HZ2.out) HCAP.out _ RI.out).mono ?_; rintro e wr ⟨rfl, hd⟩; have HB2 := Aside0.mk (below_then HZ2.out HZ2.out.size hd.below); clear HZ2 hd; have HZ2 := HB2; clear HB2))
          go_ret
          exact ⟨ret_int HRS.out.symm, HZ2.out⟩
        | false =>
          have RI := Aside0.mk hri
          have HRS : Aside0 (checkK k x = 180) := ⟨check_is k (by rw [HCL.out]; decide) h1 h2 x HKK.out HP.out false ⟨fun h => (Bool.noConfusion h), fun h => by rw [hri] at h; exact h.2⟩⟩
          clear hs hri
          go_wp2_with (first
            | (refine wpList_load_row rfl 24 (.tmp 1) rfl w.heap.size rfl 24 (evC x (.slice A x.f7.length cap)) (0, 0) _ BE.out Tryd.underlying24 rfl (by kernel_rfl) ?_)
            | (refine wpList_load_row rfl 24 (.tmp 3) rfl (w.heap.size + 1) rfl 24 (evC (onlyA x (atK k)) (.slice none 0 0)) (0, 0) _ BO.out Tryd.underlying24 rfl (by kernel_rfl) ?_)
            | (go_at_call 24; refine (same_yes x (⟨(onlyA x (atK k)).f0, (onlyA x (atK k)).f1, (onlyA x (atK k)).f2, (onlyA x (atK k)).f3, (onlyA x (atK k)).f4, (onlyA x (atK k)).f5, (onlyA x (atK k)).f6, []⟩ : S24) A none cap 0 _ (Kd.C_below HR.out HZ2.out) HCAP.out (Kd.C_nil _ _) (Nat.le_refl _) SM.out).mono ?_; rintro e wq ⟨rfl, hb⟩; have x7 : wq.cell? ⟨w.heap.size, 7, none⟩ = some (.slice A x.f7.length cap) := cell_keep BE.out hb rfl; have HB2 := Aside0.mk (below_then HZ2.out HZ2.out.size hb); clear HZ2 hb; have HZ2 := HB2; clear HB2)
            | (go_at_call 25; refine (rises_any x.f7 A cap _ (Kd.C_below HR.out HZ2.out) HCAP.out _ RI.out).mono ?_; rintro e wr ⟨rfl, hd⟩; have HB2 := Aside0.mk (below_then HZ2.out HZ2.out.size hd.below); clear HZ2 hd; have HZ2 := HB2; clear HB2))
          go_ret
          exact ⟨ret_int HRS.out.symm, HZ2.out⟩
      · have SM := Aside0.mk hs
        rw [HON.out] at SM
        have HRS : Aside0 (checkK k x = 180) := ⟨check_is k (by rw [HCL.out]; decide) h1 h2 x HKK.out HP.out false ⟨fun h => (Bool.noConfusion h), fun h => absurd h.1 hs⟩⟩
        clear hs
        go_wp2_with (first
          | (refine wpList_load_row rfl 24 (.tmp 1) rfl w.heap.size rfl 24 (evC x (.slice A x.f7.length cap)) (0, 0) _ BE.out Tryd.underlying24 rfl (by kernel_rfl) ?_)
          | (refine wpList_load_row rfl 24 (.tmp 3) rfl (w.heap.size + 1) rfl 24 (evC (onlyA x (atK k)) (.slice none 0 0)) (0, 0) _ BO.out Tryd.underlying24 rfl (by kernel_rfl) ?_)
          | (go_at_call 24; refine (same_no x (⟨(onlyA x (atK k)).f0, (onlyA x (atK k)).f1, (onlyA x (atK k)).f2, (onlyA x (atK k)).f3, (onlyA x (atK k)).f4, (onlyA x (atK k)).f5, (onlyA x (atK k)).f6, []⟩ : S24) A none cap 0 _ (Kd.C_below HR.out HZ2.out) HCAP.out (Kd.C_nil _ _) (Nat.le_refl _) SM.out).mono ?_; rintro e wq ⟨rfl, hb⟩; have x7 : wq.cell? ⟨w.heap.size, 7, none⟩ = some (.slice A x.f7.length cap) := cell_keep BE.out hb rfl; have HB2 := Aside0.mk (below_then HZ2.out HZ2.out.size hb); clear HZ2 hb; have HZ2 := HB2; clear HB2)
          | (go_at_call 25; refine (rises_any x.f7 A cap _ (Kd.C_below HR.out HZ2.out) HCAP.out _ RI.out).mono ?_; rintro e wr ⟨rfl, hd⟩; have HB2 := Aside0.mk (below_then HZ2.out HZ2.out.size hd.below); clear HZ2 hd; have HZ2 := HB2; clear HB2))
        go_ret
        exact ⟨ret_int HRS.out.symm, HZ2.out⟩
end Go.Proofs.YtiapfhlipoomaaaDoor.Given
end
