-- Laid by a program of this session (hybrid.py) over the kit's print.
import Derived.Test.YtfkfgjmhcfagkaaDoorPrint0
import Derived.Test.YtfkfgjmhcfagkaaDoorPrint6
namespace Go.Proofs.YtfkfgjmhcfagkaaDoor.Print
open Go.RowKit
open Go.RowKit Go.Proofs.YtfkfgjmhcfagkaaDoorW.PrintWords Go.Proofs.YtfkfgjmhcfagkaaDoorW.PrintLast Go.Proofs.YtfkfgjmhcfagkaaDoorW.PrintMore
attribute [local go_sem] max2_int min2_int max_two min_two max_three min_three max_four min_four   -- for this text's walks alone
set_option linter.unusedVariables false
set_option linter.unusedSimpArgs false

/-! ### squintref08_Pushes: function 18 -/
def squintref08_Pushes.j0 : Nat → Int → Bool → Int → Int → Int → List Int → Option (Int)
  | 0, _, _, _, _, _, _ => none
  | k + 1, x4, x5, x193000, x193001, x193002, x193003 => if x5 = true then (some 0) else (if x4 = 23 then (if x193002 = 1 then (some 1) else (some 0)) else ((squintref08_Name.f x193000).bind fun t193 => (if t193.toList = ([] : List UInt8) then (some 0) else (some 1))))
def squintref08_Pushes.f (k : Nat) (a0_0 : Int) (a0_1 : Int) (a0_2 : Int) (l0_3 : List Int) : Option (Int) := if a0_0 = 5 then (squintref08_Pushes.j0 k a0_0 (a0_0 == 5) a0_0 a0_1 a0_2 l0_3) else (if a0_0 = 6 then (squintref08_Pushes.j0 k a0_0 (a0_0 == 6) a0_0 a0_1 a0_2 l0_3) else (if a0_0 = 9 then (squintref08_Pushes.j0 k a0_0 (a0_0 == 9) a0_0 a0_1 a0_2 l0_3) else (if a0_0 = 16 then (squintref08_Pushes.j0 k a0_0 (a0_0 == 16) a0_0 a0_1 a0_2 l0_3) else (if a0_0 = 19 then (squintref08_Pushes.j0 k a0_0 (a0_0 == 19) a0_0 a0_1 a0_2 l0_3) else (if a0_0 = 20 then (squintref08_Pushes.j0 k a0_0 (a0_0 == 20) a0_0 a0_1 a0_2 l0_3) else (if a0_0 = 21 then (squintref08_Pushes.j0 k a0_0 (a0_0 == 21) a0_0 a0_1 a0_2 l0_3) else (if a0_0 = 24 then (squintref08_Pushes.j0 k a0_0 (a0_0 == 24) a0_0 a0_1 a0_2 l0_3) else (if a0_0 = 25 then (squintref08_Pushes.j0 k a0_0 (a0_0 == 25) a0_0 a0_1 a0_2 l0_3) else (squintref08_Pushes.j0 k a0_0 (a0_0 == 27) a0_0 a0_1 a0_2 l0_3)))))))))
theorem squintref08_Pushes.mono_l : ∀ k, (∀ y0 y1 y2 y3 y4 y5, LeO (squintref08_Pushes.j0 k y0 y1 y2 y3 y4 y5) (squintref08_Pushes.j0 (k + 1) y0 y1 y2 y3 y4 y5))
  | 0 => fun _ _ _ _ _ _ r h => by simp [squintref08_Pushes.j0] at h
  | k + 1 => by
    have ih0 := squintref08_Pushes.mono_l k
    · intro y0 y1 y2 y3 y4 y5
      unfold squintref08_Pushes.j0
      repeat' first
      | (with_reducible exact ih0 _ _ _ _ _ _)
      | (with_reducible exact LeO.refl _)
      | (with_reducible exact LeO.none _)
      | (with_reducible refine LeO.ite ?_ ?_)
      | (with_reducible refine LeO.bind ?_ (fun _ => ?_))
      | exact ih0 _ _ _ _ _ _
      | exact LeO.none _
      | refine LeO.ite ?_ ?_
      | refine LeO.bind ?_ (fun _ => ?_)
theorem squintref08_Pushes.mono : ∀ a0 a1 a2 a3 k, LeO (squintref08_Pushes.f k a0 a1 a2 a3) (squintref08_Pushes.f (k + 1) a0 a1 a2 a3) := by
  intro a0 a1 a2 a3 k
  have ih0 := squintref08_Pushes.mono_l k
  unfold squintref08_Pushes.f
  repeat' first
      | (with_reducible exact ih0 _ _ _ _ _ _)
      | (with_reducible exact LeO.refl _)
      | (with_reducible exact LeO.none _)
      | (with_reducible refine LeO.ite ?_ ?_)
      | (with_reducible refine LeO.bind ?_ (fun _ => ?_))
      | exact ih0 _ _ _ _ _ _
      | exact LeO.none _
      | refine LeO.ite ?_ ?_
      | refine LeO.bind ?_ (fun _ => ?_)
set_option maxHeartbeats 8000000 in
set_option maxRecDepth 100000 in
theorem squintref08_Pushes.calls (k : Nat) (a0_0 : Int) (a0_1 : Int) (a0_2 : Int) (A0_3 : Option Addr) (c0_3 : Nat) (l0_3 : List Int) (r : Int) (w : World) (hr0_3 : Kd.C (Kd.int .i64) w A0_3 l0_3.length l0_3) (hc0_3 : l0_3.length ≤ c0_3) (h : squintref08_Pushes.f k a0_0 a0_1 a0_2 l0_3 = some r) :
    Calls Tryd.prog 18 #[.agg #[.int .i64 a0_0, .int .i64 a0_1, .int .i64 a0_2, .slice A0_3 l0_3.length c0_3]] w fun e w' => e = .returned (.int .i64 r) ∧ Below w.heap.size w w' := by
  have hu28 := Tryd.underlying28
  have HR0_3 := Aside0.mk hr0_3
  have HC0_3 := Aside0.mk hc0_3
  clear hr0_3 hc0_3
  have HB := Aside0.mk (Below.refl w.heap.size w)
  have H : (if a0_0 = 5 then (squintref08_Pushes.j0 k a0_0 (a0_0 == 5) a0_0 a0_1 a0_2 l0_3) else (if a0_0 = 6 then (squintref08_Pushes.j0 k a0_0 (a0_0 == 6) a0_0 a0_1 a0_2 l0_3) else (if a0_0 = 9 then (squintref08_Pushes.j0 k a0_0 (a0_0 == 9) a0_0 a0_1 a0_2 l0_3) else (if a0_0 = 16 then (squintref08_Pushes.j0 k a0_0 (a0_0 == 16) a0_0 a0_1 a0_2 l0_3) else (if a0_0 = 19 then (squintref08_Pushes.j0 k a0_0 (a0_0 == 19) a0_0 a0_1 a0_2 l0_3) else (if a0_0 = 20 then (squintref08_Pushes.j0 k a0_0 (a0_0 == 20) a0_0 a0_1 a0_2 l0_3) else (if a0_0 = 21 then (squintref08_Pushes.j0 k a0_0 (a0_0 == 21) a0_0 a0_1 a0_2 l0_3) else (if a0_0 = 24 then (squintref08_Pushes.j0 k a0_0 (a0_0 == 24) a0_0 a0_1 a0_2 l0_3) else (if a0_0 = 25 then (squintref08_Pushes.j0 k a0_0 (a0_0 == 25) a0_0 a0_1 a0_2 l0_3) else (squintref08_Pushes.j0 k a0_0 (a0_0 == 27) a0_0 a0_1 a0_2 l0_3)))))))))) = some r := h
  clear h
  have HC2 := Aside0.mk H
  clear H
  go_enter Tryd.func18, Tryd.ntmps18
  go_upto_if 5 with (first | ((with_reducible refine gate_dst (N := 1) rfl ?_); refine box_event ?hg (N := 1) ?hd (cs := #[.int .i64 a0_0, .int .i64 a0_1, .int .i64 a0_2, .slice A0_3 l0_3.length c0_3]) (t := 28) ?hr ?_; (case hd => rfl); (case hg => rfl); (case hr => first | (go_simp; done) | (go_simp; rfl)); intro gb192 hg w3 hbox hb; have n0_ := Aside0.mk (below_step (by repeat (first | (with_reducible first | exact HB.out | apply below_alloc | apply pw_below_drewN | apply below_drew1) | exact HB.out)) hb); have n1_ := Aside0.mk (hbox); have n2_ := Aside0.mk ((by rw [hg]; exact (below_size (by repeat (first | (with_reducible first | exact HB.out | apply below_alloc | apply pw_below_drewN | apply below_drew1) | exact HB.out))) : w.heap.size ≤ gb192)); have n3_ := Aside0.mk ((by rw [hg]; exact (below_size (by repeat (first | (with_reducible first | exact HB.out | apply below_alloc | apply pw_below_drewN | apply below_drew1) | exact HB.out))) : w.heap.size ≤ gb192)); clear HB; have HB := n0_; have BK192 := n1_; have GW192 := n2_; have GE192 := n3_; clear n0_ n1_ n2_ n3_; clear hb hbox hg; have hcz4_0 : w3.cell? ⟨gb192, 0, none⟩ = some (.int .i64 a0_0) := (blk_cell BK192.out 0).trans rfl; have hcz4_1 : w3.cell? ⟨gb192, 1, none⟩ = some (.int .i64 a0_1) := (blk_cell BK192.out 1).trans rfl; have hcz4_2 : w3.cell? ⟨gb192, 2, none⟩ = some (.int .i64 a0_2) := (blk_cell BK192.out 2).trans rfl; have hcz4_3 : w3.cell? ⟨gb192, 3, none⟩ = some (.slice A0_3 l0_3.length c0_3) := (blk_cell BK192.out 3).trans rfl; have hfz4_0 := blk_frozen BK192.out 0; have hfz4_1 := blk_frozen BK192.out 1; have hfz4_2 := blk_frozen BK192.out 2; have hfz4_3 := blk_frozen BK192.out 3))
  (try simp only [Act.put, List.setIfInBounds_toArray, List.set_cons_zero, List.set_cons_succ])
  go_cut [5] (fun v5 wc => ∃ (kq : Nat) (x5_1 : Bool), v5 = .bool x5_1 ∧ Aside0 (squintref08_Pushes.j0 kq a0_0 x5_1 a0_0 a0_1 a0_2 l0_3 = some r) ∧ Aside0 (kq ≤ k) ∧ Aside0 (wc.heap[gb192]? = some (.cells #[.int .i64 a0_0, .int .i64 a0_1, .int .i64 a0_2, (.slice A0_3 l0_3.length c0_3)] 28 (0, 0))) ∧ Aside0 (Below w.heap.size w wc))
  case first =>
    have H := HC2.out
    clear HC2
    by_cases c5 : a0_0 = 5
    · rw [if_pos c5] at H
      have c5b0 : (a0_0 == 5) = true := beq_iff_eq.mpr c5
      have c5b1 : (a0_0 != 5) = false := bne_eq_false_iff_eq.mpr c5
      clear c5
      (first | rw [c5b0] | (simp only [i64_w, i32_w]; rw [c5b0]) | skip)
      have H' := Aside0.mk H
      clear H
      go_wp2
      go_meet
      case rel => exact ⟨_, ((a0_0 == 5)), (by first | rfl | (simp; done) | (simp [*]; done)), H', ⟨by first | omega | exact Nat.le_refl _⟩, ⟨by (with_reducible repeat (first | refine blk_drewN ?_ _ | refine blk_drew ?_ | refine blk_alloc ?_ _)); exact BK192.out⟩, ⟨by repeat (first | (with_reducible first | exact HB.out | apply below_alloc | apply pw_below_drewN | apply below_drew1 | refine below_set ?_ GE192.out) | exact HB.out)⟩⟩
    · rw [if_neg c5] at H
      have c5b0 : (a0_0 == 5) = false := beq_eq_false_iff_ne.mpr c5
      have c5b1 : (a0_0 != 5) = true := bne_iff_ne.mpr c5
      (first | rw [c5b0] | (simp only [i64_w, i32_w]; rw [c5b0]) | skip)
      by_cases c6 : a0_0 = 6
      · rw [if_pos c6] at H
        have c6b0 : (a0_0 == 6) = true := beq_iff_eq.mpr c6
        have c6b1 : (a0_0 != 6) = false := bne_eq_false_iff_eq.mpr c6
        clear c6
        have H' := Aside0.mk H
        clear H
        go_wp2
        go_meet
        case rel => exact ⟨_, ((a0_0 == 6)), (by first | rfl | (simp; done) | (simp [*]; done)), H', ⟨by first | omega | exact Nat.le_refl _⟩, ⟨by (with_reducible repeat (first | refine blk_drewN ?_ _ | refine blk_drew ?_ | refine blk_alloc ?_ _)); exact BK192.out⟩, ⟨by repeat (first | (with_reducible first | exact HB.out | apply below_alloc | apply pw_below_drewN | apply below_drew1 | refine below_set ?_ GE192.out) | exact HB.out)⟩⟩
      · rw [if_neg c6] at H
        have c6b0 : (a0_0 == 6) = false := beq_eq_false_iff_ne.mpr c6
        have c6b1 : (a0_0 != 6) = true := bne_iff_ne.mpr c6
        by_cases c7 : a0_0 = 9
        · rw [if_pos c7] at H
          have c7b0 : (a0_0 == 9) = true := beq_iff_eq.mpr c7
          have c7b1 : (a0_0 != 9) = false := bne_eq_false_iff_eq.mpr c7
          clear c7
          have H' := Aside0.mk H
          clear H
          go_wp2
          go_meet
          case rel => exact ⟨_, ((a0_0 == 9)), (by first | rfl | (simp; done) | (simp [*]; done)), H', ⟨by first | omega | exact Nat.le_refl _⟩, ⟨by (with_reducible repeat (first | refine blk_drewN ?_ _ | refine blk_drew ?_ | refine blk_alloc ?_ _)); exact BK192.out⟩, ⟨by repeat (first | (with_reducible first | exact HB.out | apply below_alloc | apply pw_below_drewN | apply below_drew1 | refine below_set ?_ GE192.out) | exact HB.out)⟩⟩
        · rw [if_neg c7] at H
          have c7b0 : (a0_0 == 9) = false := beq_eq_false_iff_ne.mpr c7
          have c7b1 : (a0_0 != 9) = true := bne_iff_ne.mpr c7
          by_cases c8 : a0_0 = 16
          · rw [if_pos c8] at H
            have c8b0 : (a0_0 == 16) = true := beq_iff_eq.mpr c8
            have c8b1 : (a0_0 != 16) = false := bne_eq_false_iff_eq.mpr c8
            clear c8
            have H' := Aside0.mk H
            clear H
            go_wp2
            go_meet
            case rel => exact ⟨_, ((a0_0 == 16)), (by first | rfl | (simp; done) | (simp [*]; done)), H', ⟨by first | omega | exact Nat.le_refl _⟩, ⟨by (with_reducible repeat (first | refine blk_drewN ?_ _ | refine blk_drew ?_ | refine blk_alloc ?_ _)); exact BK192.out⟩, ⟨by repeat (first | (with_reducible first | exact HB.out | apply below_alloc | apply pw_below_drewN | apply below_drew1 | refine below_set ?_ GE192.out) | exact HB.out)⟩⟩
          · rw [if_neg c8] at H
            have c8b0 : (a0_0 == 16) = false := beq_eq_false_iff_ne.mpr c8
            have c8b1 : (a0_0 != 16) = true := bne_iff_ne.mpr c8
            by_cases c9 : a0_0 = 19
            · rw [if_pos c9] at H
              have c9b0 : (a0_0 == 19) = true := beq_iff_eq.mpr c9
              have c9b1 : (a0_0 != 19) = false := bne_eq_false_iff_eq.mpr c9
              clear c9
              have H' := Aside0.mk H
              clear H
              go_wp2
              go_meet
              case rel => exact ⟨_, ((a0_0 == 19)), (by first | rfl | (simp; done) | (simp [*]; done)), H', ⟨by first | omega | exact Nat.le_refl _⟩, ⟨by (with_reducible repeat (first | refine blk_drewN ?_ _ | refine blk_drew ?_ | refine blk_alloc ?_ _)); exact BK192.out⟩, ⟨by repeat (first | (with_reducible first | exact HB.out | apply below_alloc | apply pw_below_drewN | apply below_drew1 | refine below_set ?_ GE192.out) | exact HB.out)⟩⟩
            · rw [if_neg c9] at H
              have c9b0 : (a0_0 == 19) = false := beq_eq_false_iff_ne.mpr c9
              have c9b1 : (a0_0 != 19) = true := bne_iff_ne.mpr c9
              by_cases c10 : a0_0 = 20
              · rw [if_pos c10] at H
                have c10b0 : (a0_0 == 20) = true := beq_iff_eq.mpr c10
                have c10b1 : (a0_0 != 20) = false := bne_eq_false_iff_eq.mpr c10
                clear c10
                have H' := Aside0.mk H
                clear H
                go_wp2
                go_meet
                case rel => exact ⟨_, ((a0_0 == 20)), (by first | rfl | (simp; done) | (simp [*]; done)), H', ⟨by first | omega | exact Nat.le_refl _⟩, ⟨by (with_reducible repeat (first | refine blk_drewN ?_ _ | refine blk_drew ?_ | refine blk_alloc ?_ _)); exact BK192.out⟩, ⟨by repeat (first | (with_reducible first | exact HB.out | apply below_alloc | apply pw_below_drewN | apply below_drew1 | refine below_set ?_ GE192.out) | exact HB.out)⟩⟩
              · rw [if_neg c10] at H
                have c10b0 : (a0_0 == 20) = false := beq_eq_false_iff_ne.mpr c10
                have c10b1 : (a0_0 != 20) = true := bne_iff_ne.mpr c10
                by_cases c11 : a0_0 = 21
                · rw [if_pos c11] at H
                  have c11b0 : (a0_0 == 21) = true := beq_iff_eq.mpr c11
                  have c11b1 : (a0_0 != 21) = false := bne_eq_false_iff_eq.mpr c11
                  clear c11
                  have H' := Aside0.mk H
                  clear H
                  go_wp2
                  go_meet
                  case rel => exact ⟨_, ((a0_0 == 21)), (by first | rfl | (simp; done) | (simp [*]; done)), H', ⟨by first | omega | exact Nat.le_refl _⟩, ⟨by (with_reducible repeat (first | refine blk_drewN ?_ _ | refine blk_drew ?_ | refine blk_alloc ?_ _)); exact BK192.out⟩, ⟨by repeat (first | (with_reducible first | exact HB.out | apply below_alloc | apply pw_below_drewN | apply below_drew1 | refine below_set ?_ GE192.out) | exact HB.out)⟩⟩
                · rw [if_neg c11] at H
                  have c11b0 : (a0_0 == 21) = false := beq_eq_false_iff_ne.mpr c11
                  have c11b1 : (a0_0 != 21) = true := bne_iff_ne.mpr c11
                  by_cases c12 : a0_0 = 24
                  · rw [if_pos c12] at H
                    have c12b0 : (a0_0 == 24) = true := beq_iff_eq.mpr c12
                    have c12b1 : (a0_0 != 24) = false := bne_eq_false_iff_eq.mpr c12
                    clear c12
                    have H' := Aside0.mk H
                    clear H
                    go_wp2
                    go_meet
                    case rel => exact ⟨_, ((a0_0 == 24)), (by first | rfl | (simp; done) | (simp [*]; done)), H', ⟨by first | omega | exact Nat.le_refl _⟩, ⟨by (with_reducible repeat (first | refine blk_drewN ?_ _ | refine blk_drew ?_ | refine blk_alloc ?_ _)); exact BK192.out⟩, ⟨by repeat (first | (with_reducible first | exact HB.out | apply below_alloc | apply pw_below_drewN | apply below_drew1 | refine below_set ?_ GE192.out) | exact HB.out)⟩⟩
                  · rw [if_neg c12] at H
                    have c12b0 : (a0_0 == 24) = false := beq_eq_false_iff_ne.mpr c12
                    have c12b1 : (a0_0 != 24) = true := bne_iff_ne.mpr c12
                    by_cases c13 : a0_0 = 25
                    · rw [if_pos c13] at H
                      have c13b0 : (a0_0 == 25) = true := beq_iff_eq.mpr c13
                      have c13b1 : (a0_0 != 25) = false := bne_eq_false_iff_eq.mpr c13
                      clear c13
                      have H' := Aside0.mk H
                      clear H
                      go_wp2
                      go_meet
                      case rel => exact ⟨_, ((a0_0 == 25)), (by first | rfl | (simp; done) | (simp [*]; done)), H', ⟨by first | omega | exact Nat.le_refl _⟩, ⟨by (with_reducible repeat (first | refine blk_drewN ?_ _ | refine blk_drew ?_ | refine blk_alloc ?_ _)); exact BK192.out⟩, ⟨by repeat (first | (with_reducible first | exact HB.out | apply below_alloc | apply pw_below_drewN | apply below_drew1 | refine below_set ?_ GE192.out) | exact HB.out)⟩⟩
                    · rw [if_neg c13] at H
                      have c13b0 : (a0_0 == 25) = false := beq_eq_false_iff_ne.mpr c13
                      have c13b1 : (a0_0 != 25) = true := bne_iff_ne.mpr c13
                      have H' := Aside0.mk H
                      clear H
                      go_wp2
                      go_meet
                      case rel => exact ⟨_, ((a0_0 == 27)), (by first | rfl | (simp; done) | (simp [*]; done)), H', ⟨by first | omega | exact Nat.le_refl _⟩, ⟨by (with_reducible repeat (first | refine blk_drewN ?_ _ | refine blk_drew ?_ | refine blk_alloc ?_ _)); exact BK192.out⟩, ⟨by repeat (first | (with_reducible first | exact HB.out | apply below_alloc | apply pw_below_drewN | apply below_drew1 | refine below_set ?_ GE192.out) | exact HB.out)⟩⟩
  case rest =>
    clear HC2
    try clear c1
    try clear p2
    try clear c5
    try clear c5b0
    try clear c5b1
    try clear c6
    try clear c6b0
    try clear c6b1
    try clear c7
    try clear c7b0
    try clear c7b1
    try clear c8
    try clear c8b0
    try clear c8b1
    try clear c9
    try clear c9b0
    try clear c9b1
    try clear c10
    try clear c10b0
    try clear c10b1
    try clear c11
    try clear c11b0
    try clear c11b1
    try clear c12
    try clear c12b0
    try clear c12b1
    try clear c13
    try clear c13b0
    try clear c13b1
    try clear hcz4_0
    try clear hcz4_1
    try clear hcz4_2
    try clear hcz4_3
    try clear hfz4_0
    try clear hfz4_1
    try clear hfz4_2
    try clear hfz4_3
    obtain ⟨kq, x5_1, rfl, HA, HJ1, BK192, HB⟩ := hcut
    cases kq with
    | zero => exact absurd HA.out (by simp [squintref08_Pushes.j0])
    | succ kj1 =>
      have H := HA.out
      clear HA
      simp only [squintref08_Pushes.j0] at H
      by_cases c14 : x5_1 = true
      · subst c14
        have H1 : (some 0) = some r := by rw [if_pos rfl] at H; exact H
        clear H
        have H := H1
        clear H1
        obtain rfl := Option.some.inj H
        go_wp2
        go_ret
        exact ⟨by first | rfl | (simp [errW_none, errW_some] <;> rfl) | (simp [*, errW_none, errW_some] <;> rfl), by repeat (first | (with_reducible first | exact HB.out | apply below_alloc | apply pw_below_drewN | apply below_drew1 | refine below_set ?_ GE192.out) | exact HB.out)⟩
      · replace c14 := Bool.eq_false_iff.mpr c14
        subst c14
        have H1 : (if a0_0 = 23 then (if a0_2 = 1 then (some 1) else (some 0)) else ((squintref08_Name.f a0_0).bind fun t193 => (if t193.toList = ([] : List UInt8) then (some 0) else (some 1)))) = some r := by rw [if_neg (show ¬ (false = true) by decide)] at H; exact H
        clear H
        have H := H1
        clear H1
        by_cases c15 : a0_0 = 23
        · rw [if_pos c15] at H
          have c15b0 : (a0_0 == 23) = true := beq_iff_eq.mpr c15
          have c15b1 : (a0_0 != 23) = false := bne_eq_false_iff_eq.mpr c15
          clear c15
          by_cases c16 : a0_2 = 1
          · rw [if_pos c16] at H
            have c16b0 : (a0_2 == 1) = true := beq_iff_eq.mpr c16
            have c16b1 : (a0_2 != 1) = false := bne_eq_false_iff_eq.mpr c16
            clear c16
            obtain rfl := Option.some.inj H
            have hcz17_0 : wc.cell? ⟨gb192, 0, none⟩ = some (.int .i64 a0_0) := (blk_cell BK192.out 0).trans rfl
            have hcz17_1 : wc.cell? ⟨gb192, 1, none⟩ = some (.int .i64 a0_1) := (blk_cell BK192.out 1).trans rfl
            have hcz17_2 : wc.cell? ⟨gb192, 2, none⟩ = some (.int .i64 a0_2) := (blk_cell BK192.out 2).trans rfl
            have hcz17_3 : wc.cell? ⟨gb192, 3, none⟩ = some (.slice A0_3 l0_3.length c0_3) := (blk_cell BK192.out 3).trans rfl
            have hfz17_0 := blk_frozen BK192.out 0
            have hfz17_1 := blk_frozen BK192.out 1
            have hfz17_2 := blk_frozen BK192.out 2
            have hfz17_3 := blk_frozen BK192.out 3
            go_wp2
            go_ret
            exact ⟨by first | rfl | (simp [errW_none, errW_some] <;> rfl) | (simp [*, errW_none, errW_some] <;> rfl), by repeat (first | (with_reducible first | exact HB.out | apply below_alloc | apply pw_below_drewN | apply below_drew1 | refine below_set ?_ GE192.out) | exact HB.out)⟩
          · rw [if_neg c16] at H
            have c16b0 : (a0_2 == 1) = false := beq_eq_false_iff_ne.mpr c16
            have c16b1 : (a0_2 != 1) = true := bne_iff_ne.mpr c16
            obtain rfl := Option.some.inj H
            have hcz18_0 : wc.cell? ⟨gb192, 0, none⟩ = some (.int .i64 a0_0) := (blk_cell BK192.out 0).trans rfl
            have hcz18_1 : wc.cell? ⟨gb192, 1, none⟩ = some (.int .i64 a0_1) := (blk_cell BK192.out 1).trans rfl
            have hcz18_2 : wc.cell? ⟨gb192, 2, none⟩ = some (.int .i64 a0_2) := (blk_cell BK192.out 2).trans rfl
            have hcz18_3 : wc.cell? ⟨gb192, 3, none⟩ = some (.slice A0_3 l0_3.length c0_3) := (blk_cell BK192.out 3).trans rfl
            have hfz18_0 := blk_frozen BK192.out 0
            have hfz18_1 := blk_frozen BK192.out 1
            have hfz18_2 := blk_frozen BK192.out 2
            have hfz18_3 := blk_frozen BK192.out 3
            go_wp2
            go_ret
            exact ⟨by first | rfl | (simp [errW_none, errW_some] <;> rfl) | (simp [*, errW_none, errW_some] <;> rfl), by repeat (first | (with_reducible first | exact HB.out | apply below_alloc | apply pw_below_drewN | apply below_drew1 | refine below_set ?_ GE192.out) | exact HB.out)⟩
        · rw [if_neg c15] at H
          have c15b0 : (a0_0 == 23) = false := beq_eq_false_iff_ne.mpr c15
          have c15b1 : (a0_0 != 23) = true := bne_iff_ne.mpr c15
          replace H := Option.bind_eq_some_iff.mp H
          obtain ⟨t193, A190, H⟩ := H
          replace H : (if t193.toList = ([] : List UInt8) then (some 0) else (some 1)) = some r := H
          have A19 := Aside0.mk A190
          clear A190
          by_cases c20 : t193.toList = ([] : List UInt8)
          · rw [if_pos c20] at H
            have c20b0 : (t193.toList == ([] : List UInt8)) = true := beq_iff_eq.mpr c20
            have c20b1 : (t193.toList != ([] : List UInt8)) = false := bne_eq_false_iff_eq.mpr c20
            clear c20
            obtain rfl := Option.some.inj H
            have hcz21_0 : wc.cell? ⟨gb192, 0, none⟩ = some (.int .i64 a0_0) := (blk_cell BK192.out 0).trans rfl
            have hcz21_1 : wc.cell? ⟨gb192, 1, none⟩ = some (.int .i64 a0_1) := (blk_cell BK192.out 1).trans rfl
            have hcz21_2 : wc.cell? ⟨gb192, 2, none⟩ = some (.int .i64 a0_2) := (blk_cell BK192.out 2).trans rfl
            have hcz21_3 : wc.cell? ⟨gb192, 3, none⟩ = some (.slice A0_3 l0_3.length c0_3) := (blk_cell BK192.out 3).trans rfl
            have hfz21_0 := blk_frozen BK192.out 0
            have hfz21_1 := blk_frozen BK192.out 1
            have hfz21_2 := blk_frozen BK192.out 2
            have hfz21_3 := blk_frozen BK192.out 3
            go_wp2_with (first | ((with_reducible refine gate_callee (f := 12) rfl ?_); refine goesL_ (some 23) rfl rfl Tryd.func12 (by kernel_rfl) rfl #[.int .i64 a0_0] rfl (by (try simp only [List.map_toArray, List.map_cons, List.map_nil]); first | done | rfl | (simp only [List.length_drop, List.length_take]; rfl)) ?_; (with_reducible refine (squintref08_Name.calls a0_0 t193 _ A19.out).mono ?_); rintro e w22 ⟨rfl, hb⟩; refine ⟨_, rfl, ?_⟩; have n0_ := Aside0.mk (blk_below (g := gb192) (o := .cells #[.int .i64 a0_0, .int .i64 a0_1, .int .i64 a0_2, .slice A0_3 l0_3.length c0_3] 28 (0, 0)) (by (with_reducible repeat (first | refine blk_drewN ?_ _ | refine blk_drew ?_ | refine blk_alloc ?_ _)); exact BK192.out) hb); have n1_ := Aside0.mk (below_step (by repeat (first | (with_reducible first | exact HB.out | apply below_alloc | apply pw_below_drewN | apply below_drew1 | refine below_set ?_ GE192.out) | exact HB.out)) hb); clear BK192; clear HB; have BK192 := n0_; have HB := n1_; clear n0_ n1_; (try clear hb); (try clear hb2); (try clear hk); (try clear hi)))
            go_ret
            exact ⟨by first | rfl | (simp [errW_none, errW_some] <;> rfl) | (simp [*, errW_none, errW_some] <;> rfl), by repeat (first | (with_reducible first | exact HB.out | apply below_alloc | apply pw_below_drewN | apply below_drew1 | refine below_set ?_ GE192.out) | exact HB.out)⟩
          · rw [if_neg c20] at H
            have c20b0 : (t193.toList == ([] : List UInt8)) = false := beq_eq_false_iff_ne.mpr c20
            have c20b1 : (t193.toList != ([] : List UInt8)) = true := bne_iff_ne.mpr c20
            obtain rfl := Option.some.inj H
            have hcz23_0 : wc.cell? ⟨gb192, 0, none⟩ = some (.int .i64 a0_0) := (blk_cell BK192.out 0).trans rfl
            have hcz23_1 : wc.cell? ⟨gb192, 1, none⟩ = some (.int .i64 a0_1) := (blk_cell BK192.out 1).trans rfl
            have hcz23_2 : wc.cell? ⟨gb192, 2, none⟩ = some (.int .i64 a0_2) := (blk_cell BK192.out 2).trans rfl
            have hcz23_3 : wc.cell? ⟨gb192, 3, none⟩ = some (.slice A0_3 l0_3.length c0_3) := (blk_cell BK192.out 3).trans rfl
            have hfz23_0 := blk_frozen BK192.out 0
            have hfz23_1 := blk_frozen BK192.out 1
            have hfz23_2 := blk_frozen BK192.out 2
            have hfz23_3 := blk_frozen BK192.out 3
            go_wp2_with (first | ((with_reducible refine gate_callee (f := 12) rfl ?_); refine goesL_ (some 23) rfl rfl Tryd.func12 (by kernel_rfl) rfl #[.int .i64 a0_0] rfl (by (try simp only [List.map_toArray, List.map_cons, List.map_nil]); first | done | rfl | (simp only [List.length_drop, List.length_take]; rfl)) ?_; (with_reducible refine (squintref08_Name.calls a0_0 t193 _ A19.out).mono ?_); rintro e w24 ⟨rfl, hb⟩; refine ⟨_, rfl, ?_⟩; have n0_ := Aside0.mk (blk_below (g := gb192) (o := .cells #[.int .i64 a0_0, .int .i64 a0_1, .int .i64 a0_2, .slice A0_3 l0_3.length c0_3] 28 (0, 0)) (by (with_reducible repeat (first | refine blk_drewN ?_ _ | refine blk_drew ?_ | refine blk_alloc ?_ _)); exact BK192.out) hb); have n1_ := Aside0.mk (below_step (by repeat (first | (with_reducible first | exact HB.out | apply below_alloc | apply pw_below_drewN | apply below_drew1 | refine below_set ?_ GE192.out) | exact HB.out)) hb); clear BK192; clear HB; have BK192 := n0_; have HB := n1_; clear n0_ n1_; (try clear hb); (try clear hb2); (try clear hk); (try clear hi)))
            go_ret
            exact ⟨by first | rfl | (simp [errW_none, errW_some] <;> rfl) | (simp [*, errW_none, errW_some] <;> rfl), by repeat (first | (with_reducible first | exact HB.out | apply below_alloc | apply pw_below_drewN | apply below_drew1 | refine below_set ?_ GE192.out) | exact HB.out)⟩

/-! ### squintlaw08_sameInts: function 19 -/
def squintlaw08_sameInts.l0 : Nat → List Int → List Int → Int → Option (Bool)
  | 0, _, _, _ => none
  | k + 1, x0, x1, x5 => if x5 < (x0.length : Int) then (if 0 ≤ x5 then (if x5 < (x1.length : Int) then (if (rd x0 x5) = (rd x1 x5) then (squintlaw08_sameInts.l0 k x0 x1 (wrap64 (x5 + 1))) else (some false)) else (none)) else (none)) else (some true)
def squintlaw08_sameInts.f (k : Nat) (l0 : List Int) (l1 : List Int) : Option (Bool) := if (l0.length : Int) = (l1.length : Int) then (squintlaw08_sameInts.l0 k l0 l1 0) else (some false)
theorem squintlaw08_sameInts.mono_l : ∀ k, (∀ y0 y1 y2, LeO (squintlaw08_sameInts.l0 k y0 y1 y2) (squintlaw08_sameInts.l0 (k + 1) y0 y1 y2))
  | 0 => fun _ _ _ r h => by simp [squintlaw08_sameInts.l0] at h
  | k + 1 => by
    have ih0 := squintlaw08_sameInts.mono_l k
    · intro y0 y1 y2
      unfold squintlaw08_sameInts.l0
      repeat' first
      | (with_reducible exact ih0 _ _ _)
      | (with_reducible exact LeO.refl _)
      | (with_reducible exact LeO.none _)
      | (with_reducible refine LeO.ite ?_ ?_)
      | (with_reducible refine LeO.bind ?_ (fun _ => ?_))
      | exact ih0 _ _ _
      | exact LeO.none _
      | refine LeO.ite ?_ ?_
      | refine LeO.bind ?_ (fun _ => ?_)
theorem squintlaw08_sameInts.mono : ∀ a0 a1 k, LeO (squintlaw08_sameInts.f k a0 a1) (squintlaw08_sameInts.f (k + 1) a0 a1) := by
  intro a0 a1 k
  have ih0 := squintlaw08_sameInts.mono_l k
  unfold squintlaw08_sameInts.f
  repeat' first
      | (with_reducible exact ih0 _ _ _)
      | (with_reducible exact LeO.refl _)
      | (with_reducible exact LeO.none _)
      | (with_reducible refine LeO.ite ?_ ?_)
      | (with_reducible refine LeO.bind ?_ (fun _ => ?_))
      | exact ih0 _ _ _
      | exact LeO.none _
      | refine LeO.ite ?_ ?_
      | refine LeO.bind ?_ (fun _ => ?_)
set_option maxHeartbeats 8000000 in
set_option maxRecDepth 100000 in
theorem squintlaw08_sameInts.calls (k : Nat) (A0 : Option Addr) (c0 : Nat) (l0 : List Int) (A1 : Option Addr) (c1 : Nat) (l1 : List Int) (r : Bool) (w : World) (hr0 : Kd.C (Kd.int .i64) w A0 l0.length l0) (hc0 : l0.length ≤ c0) (hr1 : Kd.C (Kd.int .i64) w A1 l1.length l1) (hc1 : l1.length ≤ c1) (h : squintlaw08_sameInts.f k l0 l1 = some r) :
    Calls Tryd.prog 19 #[.slice A0 l0.length c0, .slice A1 l1.length c1] w fun e w' => e = .returned (.bool r) ∧ Drawn0 w w' := by
  have HR0 := Aside0.mk hr0
  have HC0 := Aside0.mk hc0
  clear hr0 hc0
  have HR1 := Aside0.mk hr1
  have HC1 := Aside0.mk hc1
  clear hr1 hc1
  have H : (if (l0.length : Int) = (l1.length : Int) then (squintlaw08_sameInts.l0 k l0 l1 0) else (some false)) = some r := h
  clear h
  by_cases c3 : (l0.length : Int) = (l1.length : Int)
  · rw [if_pos c3] at H
    have c3b0 : ((l0.length : Int) == (l1.length : Int)) = true := beq_iff_eq.mpr c3
    have c3b1 : ((l0.length : Int) != (l1.length : Int)) = false := bne_eq_false_iff_eq.mpr c3
    have c3b2 : (l0.length == l1.length) = true := by first | simpa using c3 | (simp at c3 ⊢; omega)
    clear c3
    have H' := Aside0.mk H
    clear H
    go_enter Tryd.func19, Tryd.ntmps19
    go_wp2
    repeat (go_quiet (fail); try go_wp2)
    go_loopg [5] k (fun kq v5 w' => ∃ (x5_1 : Int), v5 = .int .i64 x5_1 ∧ Aside0 (squintlaw08_sameInts.l0 kq l0 l1 x5_1 = some r) ∧ Aside0 (kq ≤ k) ∧ Drawn0 w w')
    case atStart => exact ⟨(0), (by first | rfl | (simp; done) | (simp [*]; done)), H', ⟨Nat.le_refl _⟩, by repeat (first | exact Drawn0.refl _ | apply Drawn0.step)⟩
    case round =>
      clear H'
      try clear c1
      try clear p2
      try clear c3
      try clear c3b0
      try clear c3b1
      try clear c3b2
      obtain ⟨x5_1, rfl, HA, HK1, ⟨m1, rfl⟩⟩ := hrel
      cases gk with
      | zero => exact absurd HA.out (by simp [squintlaw08_sameInts.l0])
      | succ k1 =>
        have H := HA.out
        clear HA
        simp only [squintlaw08_sameInts.l0] at H
        by_cases c4 : x5_1 < (l0.length : Int)
        · rw [if_pos c4] at H
          have c4b0 : decide (x5_1 < (l0.length : Int)) = true := decide_eq_true c4
          clear c4
          by_cases c5 : 0 ≤ x5_1
          · rw [if_pos c5] at H
            have c5b0 : decide (0 ≤ x5_1) = true := decide_eq_true c5
            clear c5
            by_cases c6 : x5_1 < (l1.length : Int)
            · rw [if_pos c6] at H
              have c6b0 : decide (x5_1 < (l1.length : Int)) = true := decide_eq_true c6
              clear c6
              by_cases c7 : (rd l0 x5_1) = (rd l1 x5_1)
              · rw [if_pos c7] at H
                have c7b0 : ((rd l0 x5_1) == (rd l1 x5_1)) = true := beq_iff_eq.mpr c7
                have c7b1 : ((rd l0 x5_1) != (rd l1 x5_1)) = false := bne_eq_false_iff_eq.mpr c7
                clear c7
                have H' := Aside0.mk H
                clear H
                have p194 : 0 ≤ (x5_1 : Int) := of_decide_eq_true (by first | (with_reducible assumption) | assumption)
                have q194 : x5_1 < (l0.length : Int) := of_decide_eq_true (by first | (with_reducible assumption) | assumption)
                obtain ⟨ad194, e194, hx194_0⟩ := Kd.at_int HR0.out x5_1 p194 q194
                cases e194
                replace p194 := eq_true p194
                replace q194 := eq_true q194
                have p195 : 0 ≤ (x5_1 : Int) := of_decide_eq_true (by first | (with_reducible assumption) | assumption)
                have q195 : x5_1 < (l1.length : Int) := of_decide_eq_true (by first | (with_reducible assumption) | assumption)
                obtain ⟨ad195, e195, hx195_0⟩ := Kd.at_int HR1.out x5_1 p195 q195
                cases e195
                replace p195 := eq_true p195
                replace q195 := eq_true q195
                go_wp2
                repeat (go_quiet (fail); try go_wp2)
                go_roundg k1
                case measure => have := HK1.out; omega
                case rel => exact ⟨(wrap64 (x5_1 + 1)), (by first | rfl | (simp; done) | (simp [*]; done)), H', ⟨by have := HK1.out; omega⟩, by repeat (first | exact Drawn0.refl _ | apply Drawn0.step)⟩
              · rw [if_neg c7] at H
                have c7b0 : ((rd l0 x5_1) == (rd l1 x5_1)) = false := beq_eq_false_iff_ne.mpr c7
                have c7b1 : ((rd l0 x5_1) != (rd l1 x5_1)) = true := bne_iff_ne.mpr c7
                obtain rfl := Option.some.inj H
                have p194 : 0 ≤ (x5_1 : Int) := of_decide_eq_true (by first | (with_reducible assumption) | assumption)
                have q194 : x5_1 < (l0.length : Int) := of_decide_eq_true (by first | (with_reducible assumption) | assumption)
                obtain ⟨ad194, e194, hx194_0⟩ := Kd.at_int HR0.out x5_1 p194 q194
                cases e194
                replace p194 := eq_true p194
                replace q194 := eq_true q194
                have p195 : 0 ≤ (x5_1 : Int) := of_decide_eq_true (by first | (with_reducible assumption) | assumption)
                have q195 : x5_1 < (l1.length : Int) := of_decide_eq_true (by first | (with_reducible assumption) | assumption)
                obtain ⟨ad195, e195, hx195_0⟩ := Kd.at_int HR1.out x5_1 p195 q195
                cases e195
                replace p195 := eq_true p195
                replace q195 := eq_true q195
                go_wp2
                repeat (go_quiet (fail); try go_wp2)
                go_ret
                exact ⟨by first | rfl | (simp; done) | (simp [*]; done), by repeat (first | exact Drawn0.refl _ | apply Drawn0.step)⟩
            · rw [if_neg c6] at H
              exact absurd H (by simp)
          · rw [if_neg c5] at H
            exact absurd H (by simp)
        · rw [if_neg c4] at H
          have c4b0 : decide (x5_1 < (l0.length : Int)) = false := decide_eq_false c4
          clear c4
          obtain rfl := Option.some.inj H
          go_wp2
          repeat (go_quiet (fail); try go_wp2)
          go_ret
          exact ⟨by first | rfl | (simp; done) | (simp [*]; done), by repeat (first | exact Drawn0.refl _ | apply Drawn0.step)⟩
  · rw [if_neg c3] at H
    have c3b0 : ((l0.length : Int) == (l1.length : Int)) = false := beq_eq_false_iff_ne.mpr c3
    have c3b1 : ((l0.length : Int) != (l1.length : Int)) = true := bne_iff_ne.mpr c3
    have c3b2 : (l0.length == l1.length) = false := by first | simpa using c3 | (simp at c3 ⊢; omega)
    obtain rfl := Option.some.inj H
    go_enter Tryd.func19, Tryd.ntmps19
    go_wp2
    repeat (go_quiet (fail); try go_wp2)
    go_ret
    exact ⟨by first | rfl | (simp; done) | (simp [*]; done), by repeat (first | exact Drawn0.refl _ | apply Drawn0.step)⟩

-- NOT PRINTED: function 4 (squintlaw08_CodeTakes)

/-! ### squintlaw08_more: function 34 -/
def squintlaw08_more.f (a0 : Int) (a1 : Int) : Option (Int) := if a0 > 2147483647 then (some 2147483648) else (if a1 > (wrap64 (2147483647 - a0)) then (some 2147483648) else (some (wrap64 (a0 + a1))))
set_option maxHeartbeats 8000000 in
set_option maxRecDepth 100000 in
theorem squintlaw08_more.calls (a0 : Int) (a1 : Int) (r : Int) (w : World) (h : squintlaw08_more.f a0 a1 = some r) :
    Calls Tryd.prog 34 #[.int .i64 a0, .int .i64 a1] w fun e w' => e = .returned (.int .i64 r) ∧ Drawn0 w w' := by
  have H : (if a0 > 2147483647 then (some 2147483648) else (if a1 > (wrap64 (2147483647 - a0)) then (some 2147483648) else (some (wrap64 (a0 + a1))))) = some r := h
  clear h
  by_cases c3 : a0 > 2147483647
  · rw [if_pos c3] at H
    have c3b0 : decide (2147483647 < a0) = true := decide_eq_true c3
    clear c3
    obtain rfl := Option.some.inj H
    go_enter Tryd.func34, Tryd.ntmps34
    go_wp2
    go_ret
    exact ⟨by first | rfl | (simp; done) | (simp [*]; done), by repeat (first | exact Drawn0.refl _ | apply Drawn0.step)⟩
  · rw [if_neg c3] at H
    have c3b0 : decide (2147483647 < a0) = false := decide_eq_false c3
    clear c3
    by_cases c4 : a1 > (wrap64 (2147483647 - a0))
    · rw [if_pos c4] at H
      have c4b0 : decide ((wrap64 (2147483647 - a0)) < a1) = true := decide_eq_true c4
      clear c4
      obtain rfl := Option.some.inj H
      go_enter Tryd.func34, Tryd.ntmps34
      go_wp2
      go_ret
      exact ⟨by first | rfl | (simp; done) | (simp [*]; done), by repeat (first | exact Drawn0.refl _ | apply Drawn0.step)⟩
    · rw [if_neg c4] at H
      have c4b0 : decide ((wrap64 (2147483647 - a0)) < a1) = false := decide_eq_false c4
      clear c4
      obtain rfl := Option.some.inj H
      go_enter Tryd.func34, Tryd.ntmps34
      go_wp2
      go_ret
      exact ⟨by first | rfl | (simp; done) | (simp [*]; done), by repeat (first | exact Drawn0.refl _ | apply Drawn0.step)⟩

/-! ### squintlaw08_many: function 35 -/
def squintlaw08_many.f (a0 : Int) : Option (Int) := if a0 > 102261126 then (some 2147483648) else (some (wrap64 (a0 * 21)))
set_option maxHeartbeats 8000000 in
set_option maxRecDepth 100000 in
theorem squintlaw08_many.calls (a0 : Int) (r : Int) (w : World) (h : squintlaw08_many.f a0 = some r) :
    Calls Tryd.prog 35 #[.int .i64 a0] w fun e w' => e = .returned (.int .i64 r) ∧ Drawn0 w w' := by
  have H : (if a0 > 102261126 then (some 2147483648) else (some (wrap64 (a0 * 21)))) = some r := h
  clear h
  by_cases c2 : a0 > 102261126
  · rw [if_pos c2] at H
    have c2b0 : decide (102261126 < a0) = true := decide_eq_true c2
    clear c2
    obtain rfl := Option.some.inj H
    go_enter Tryd.func35, Tryd.ntmps35
    go_wp2
    go_ret
    exact ⟨by first | rfl | (simp; done) | (simp [*]; done), by repeat (first | exact Drawn0.refl _ | apply Drawn0.step)⟩
  · rw [if_neg c2] at H
    have c2b0 : decide (102261126 < a0) = false := decide_eq_false c2
    clear c2
    obtain rfl := Option.some.inj H
    go_enter Tryd.func35, Tryd.ntmps35
    go_wp2
    go_ret
    exact ⟨by first | rfl | (simp; done) | (simp [*]; done), by repeat (first | exact Drawn0.refl _ | apply Drawn0.step)⟩

end Go.Proofs.YtfkfgjmhcfagkaaDoor.Print
