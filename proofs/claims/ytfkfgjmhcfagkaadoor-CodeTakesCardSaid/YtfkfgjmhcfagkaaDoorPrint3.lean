-- Laid by a program of this session (hybrid.py) over the kit's print.
import Derived.Test.YtfkfgjmhcfagkaaDoorPrint0
namespace Go.Proofs.YtfkfgjmhcfagkaaDoor.Print
open Go.RowKit
open Go.RowKit Go.Proofs.YtfkfgjmhcfagkaaDoorW.PrintWords Go.Proofs.YtfkfgjmhcfagkaaDoorW.PrintLast Go.Proofs.YtfkfgjmhcfagkaaDoorW.PrintMore
attribute [local go_sem] max2_int min2_int max_two min_two max_three min_three max_four min_four   -- for this text's walks alone
set_option linter.unusedVariables false
set_option linter.unusedSimpArgs false

/-! ### code_Pushes: function 16 -/
def code_Pushes.j0 : Nat → Int → Bool → Int → Int → Int → List Int → Option (Int)
  | 0, _, _, _, _, _, _ => none
  | k + 1, x4, x5, x105000, x105001, x105002, x105003 => if x5 = true then (some 1) else (if x4 = 23 then (if x105002 = 1 then (some 1) else (some 0)) else (some 0))
def code_Pushes.f (k : Nat) (a0_0 : Int) (a0_1 : Int) (a0_2 : Int) (l0_3 : List Int) : Option (Int) := if a0_0 = 1 then (code_Pushes.j0 k a0_0 (a0_0 == 1) a0_0 a0_1 a0_2 l0_3) else (if a0_0 = 2 then (code_Pushes.j0 k a0_0 (a0_0 == 2) a0_0 a0_1 a0_2 l0_3) else (if a0_0 = 3 then (code_Pushes.j0 k a0_0 (a0_0 == 3) a0_0 a0_1 a0_2 l0_3) else (if a0_0 = 4 then (code_Pushes.j0 k a0_0 (a0_0 == 4) a0_0 a0_1 a0_2 l0_3) else (if a0_0 = 7 then (code_Pushes.j0 k a0_0 (a0_0 == 7) a0_0 a0_1 a0_2 l0_3) else (if a0_0 = 8 then (code_Pushes.j0 k a0_0 (a0_0 == 8) a0_0 a0_1 a0_2 l0_3) else (if a0_0 = 10 then (code_Pushes.j0 k a0_0 (a0_0 == 10) a0_0 a0_1 a0_2 l0_3) else (if a0_0 = 11 then (code_Pushes.j0 k a0_0 (a0_0 == 11) a0_0 a0_1 a0_2 l0_3) else (if a0_0 = 12 then (code_Pushes.j0 k a0_0 (a0_0 == 12) a0_0 a0_1 a0_2 l0_3) else (if a0_0 = 13 then (code_Pushes.j0 k a0_0 (a0_0 == 13) a0_0 a0_1 a0_2 l0_3) else (if a0_0 = 14 then (code_Pushes.j0 k a0_0 (a0_0 == 14) a0_0 a0_1 a0_2 l0_3) else (if a0_0 = 15 then (code_Pushes.j0 k a0_0 (a0_0 == 15) a0_0 a0_1 a0_2 l0_3) else (if a0_0 = 17 then (code_Pushes.j0 k a0_0 (a0_0 == 17) a0_0 a0_1 a0_2 l0_3) else (if a0_0 = 18 then (code_Pushes.j0 k a0_0 (a0_0 == 18) a0_0 a0_1 a0_2 l0_3) else (if a0_0 = 22 then (code_Pushes.j0 k a0_0 (a0_0 == 22) a0_0 a0_1 a0_2 l0_3) else (code_Pushes.j0 k a0_0 (a0_0 == 26) a0_0 a0_1 a0_2 l0_3)))))))))))))))
theorem code_Pushes.mono_l : ∀ k, (∀ y0 y1 y2 y3 y4 y5, LeO (code_Pushes.j0 k y0 y1 y2 y3 y4 y5) (code_Pushes.j0 (k + 1) y0 y1 y2 y3 y4 y5))
  | 0 => fun _ _ _ _ _ _ r h => by simp [code_Pushes.j0] at h
  | k + 1 => by
    have ih0 := code_Pushes.mono_l k
    · intro y0 y1 y2 y3 y4 y5
      unfold code_Pushes.j0
      repeat' first
      | (with_reducible exact ih0 _ _ _ _ _ _)
      | (with_reducible exact LeO.refl _)
      | (with_reducible exact LeO.none _)
      | (with_reducible refine LeO.ite ?_ ?_)
      | (with_reducible refine LeO.bind ?_ (fun _ => ?_))
      | exact ih0 _ _ _ _ _ _
      | exact LeO.none _
      | refine LeO.ite ?_ ?_
      | refine LeO.bind ?_ (fun _ => ?_)
theorem code_Pushes.mono : ∀ a0 a1 a2 a3 k, LeO (code_Pushes.f k a0 a1 a2 a3) (code_Pushes.f (k + 1) a0 a1 a2 a3) := by
  intro a0 a1 a2 a3 k
  have ih0 := code_Pushes.mono_l k
  unfold code_Pushes.f
  repeat' first
      | (with_reducible exact ih0 _ _ _ _ _ _)
      | (with_reducible exact LeO.refl _)
      | (with_reducible exact LeO.none _)
      | (with_reducible refine LeO.ite ?_ ?_)
      | (with_reducible refine LeO.bind ?_ (fun _ => ?_))
      | exact ih0 _ _ _ _ _ _
      | exact LeO.none _
      | refine LeO.ite ?_ ?_
      | refine LeO.bind ?_ (fun _ => ?_)
set_option maxHeartbeats 8000000 in
set_option maxRecDepth 100000 in
theorem code_Pushes.calls (k : Nat) (a0_0 : Int) (a0_1 : Int) (a0_2 : Int) (A0_3 : Option Addr) (c0_3 : Nat) (l0_3 : List Int) (r : Int) (w : World) (hr0_3 : Kd.C (Kd.int .i64) w A0_3 l0_3.length l0_3) (hc0_3 : l0_3.length ≤ c0_3) (h : code_Pushes.f k a0_0 a0_1 a0_2 l0_3 = some r) :
    Calls Tryd.prog 16 #[.agg #[.int .i64 a0_0, .int .i64 a0_1, .int .i64 a0_2, .slice A0_3 l0_3.length c0_3]] w fun e w' => e = .returned (.int .i64 r) ∧ Below w.heap.size w w' := by
  have hu28 := Tryd.underlying28
  have HR0_3 := Aside0.mk hr0_3
  have HC0_3 := Aside0.mk hc0_3
  clear hr0_3 hc0_3
  have HB := Aside0.mk (Below.refl w.heap.size w)
  have H : (if a0_0 = 1 then (code_Pushes.j0 k a0_0 (a0_0 == 1) a0_0 a0_1 a0_2 l0_3) else (if a0_0 = 2 then (code_Pushes.j0 k a0_0 (a0_0 == 2) a0_0 a0_1 a0_2 l0_3) else (if a0_0 = 3 then (code_Pushes.j0 k a0_0 (a0_0 == 3) a0_0 a0_1 a0_2 l0_3) else (if a0_0 = 4 then (code_Pushes.j0 k a0_0 (a0_0 == 4) a0_0 a0_1 a0_2 l0_3) else (if a0_0 = 7 then (code_Pushes.j0 k a0_0 (a0_0 == 7) a0_0 a0_1 a0_2 l0_3) else (if a0_0 = 8 then (code_Pushes.j0 k a0_0 (a0_0 == 8) a0_0 a0_1 a0_2 l0_3) else (if a0_0 = 10 then (code_Pushes.j0 k a0_0 (a0_0 == 10) a0_0 a0_1 a0_2 l0_3) else (if a0_0 = 11 then (code_Pushes.j0 k a0_0 (a0_0 == 11) a0_0 a0_1 a0_2 l0_3) else (if a0_0 = 12 then (code_Pushes.j0 k a0_0 (a0_0 == 12) a0_0 a0_1 a0_2 l0_3) else (if a0_0 = 13 then (code_Pushes.j0 k a0_0 (a0_0 == 13) a0_0 a0_1 a0_2 l0_3) else (if a0_0 = 14 then (code_Pushes.j0 k a0_0 (a0_0 == 14) a0_0 a0_1 a0_2 l0_3) else (if a0_0 = 15 then (code_Pushes.j0 k a0_0 (a0_0 == 15) a0_0 a0_1 a0_2 l0_3) else (if a0_0 = 17 then (code_Pushes.j0 k a0_0 (a0_0 == 17) a0_0 a0_1 a0_2 l0_3) else (if a0_0 = 18 then (code_Pushes.j0 k a0_0 (a0_0 == 18) a0_0 a0_1 a0_2 l0_3) else (if a0_0 = 22 then (code_Pushes.j0 k a0_0 (a0_0 == 22) a0_0 a0_1 a0_2 l0_3) else (code_Pushes.j0 k a0_0 (a0_0 == 26) a0_0 a0_1 a0_2 l0_3)))))))))))))))) = some r := h
  clear h
  have HC2 := Aside0.mk H
  clear H
  go_enter Tryd.func16, Tryd.ntmps16
  go_upto_if 5 with (first | ((with_reducible refine gate_dst (N := 1) rfl ?_); refine box_event ?hg (N := 1) ?hd (cs := #[.int .i64 a0_0, .int .i64 a0_1, .int .i64 a0_2, .slice A0_3 l0_3.length c0_3]) (t := 28) ?hr ?_; (case hd => rfl); (case hg => rfl); (case hr => first | (go_simp; done) | (go_simp; rfl)); intro gb104 hg w3 hbox hb; have n0_ := Aside0.mk (below_step (by repeat (first | (with_reducible first | exact HB.out | apply below_alloc | apply pw_below_drewN | apply below_drew1) | exact HB.out)) hb); have n1_ := Aside0.mk (hbox); have n2_ := Aside0.mk ((by rw [hg]; exact (below_size (by repeat (first | (with_reducible first | exact HB.out | apply below_alloc | apply pw_below_drewN | apply below_drew1) | exact HB.out))) : w.heap.size ≤ gb104)); have n3_ := Aside0.mk ((by rw [hg]; exact (below_size (by repeat (first | (with_reducible first | exact HB.out | apply below_alloc | apply pw_below_drewN | apply below_drew1) | exact HB.out))) : w.heap.size ≤ gb104)); clear HB; have HB := n0_; have BK104 := n1_; have GW104 := n2_; have GE104 := n3_; clear n0_ n1_ n2_ n3_; clear hb hbox hg; have hcz4_0 : w3.cell? ⟨gb104, 0, none⟩ = some (.int .i64 a0_0) := (blk_cell BK104.out 0).trans rfl; have hcz4_1 : w3.cell? ⟨gb104, 1, none⟩ = some (.int .i64 a0_1) := (blk_cell BK104.out 1).trans rfl; have hcz4_2 : w3.cell? ⟨gb104, 2, none⟩ = some (.int .i64 a0_2) := (blk_cell BK104.out 2).trans rfl; have hcz4_3 : w3.cell? ⟨gb104, 3, none⟩ = some (.slice A0_3 l0_3.length c0_3) := (blk_cell BK104.out 3).trans rfl; have hfz4_0 := blk_frozen BK104.out 0; have hfz4_1 := blk_frozen BK104.out 1; have hfz4_2 := blk_frozen BK104.out 2; have hfz4_3 := blk_frozen BK104.out 3))
  (try simp only [Act.put, List.setIfInBounds_toArray, List.set_cons_zero, List.set_cons_succ])
  go_cut [5] (fun v5 wc => ∃ (kq : Nat) (x5_1 : Bool), v5 = .bool x5_1 ∧ Aside0 (code_Pushes.j0 kq a0_0 x5_1 a0_0 a0_1 a0_2 l0_3 = some r) ∧ Aside0 (kq ≤ k) ∧ Aside0 (wc.heap[gb104]? = some (.cells #[.int .i64 a0_0, .int .i64 a0_1, .int .i64 a0_2, (.slice A0_3 l0_3.length c0_3)] 28 (0, 0))) ∧ Aside0 (Below w.heap.size w wc))
  case first =>
    have H := HC2.out
    clear HC2
    by_cases c5 : a0_0 = 1
    · rw [if_pos c5] at H
      have c5b0 : (a0_0 == 1) = true := beq_iff_eq.mpr c5
      have c5b1 : (a0_0 != 1) = false := bne_eq_false_iff_eq.mpr c5
      clear c5
      (first | rw [c5b0] | (simp only [i64_w, i32_w]; rw [c5b0]) | skip)
      have H' := Aside0.mk H
      clear H
      go_wp2
      go_meet
      case rel => exact ⟨_, ((a0_0 == 1)), (by first | rfl | (simp; done) | (simp [*]; done)), H', ⟨by first | omega | exact Nat.le_refl _⟩, ⟨by (with_reducible repeat (first | refine blk_drewN ?_ _ | refine blk_drew ?_ | refine blk_alloc ?_ _)); exact BK104.out⟩, ⟨by repeat (first | (with_reducible first | exact HB.out | apply below_alloc | apply pw_below_drewN | apply below_drew1 | refine below_set ?_ GE104.out) | exact HB.out)⟩⟩
    · rw [if_neg c5] at H
      have c5b0 : (a0_0 == 1) = false := beq_eq_false_iff_ne.mpr c5
      have c5b1 : (a0_0 != 1) = true := bne_iff_ne.mpr c5
      (first | rw [c5b0] | (simp only [i64_w, i32_w]; rw [c5b0]) | skip)
      by_cases c6 : a0_0 = 2
      · rw [if_pos c6] at H
        have c6b0 : (a0_0 == 2) = true := beq_iff_eq.mpr c6
        have c6b1 : (a0_0 != 2) = false := bne_eq_false_iff_eq.mpr c6
        clear c6
        have H' := Aside0.mk H
        clear H
        go_wp2
        go_meet
        case rel => exact ⟨_, ((a0_0 == 2)), (by first | rfl | (simp; done) | (simp [*]; done)), H', ⟨by first | omega | exact Nat.le_refl _⟩, ⟨by (with_reducible repeat (first | refine blk_drewN ?_ _ | refine blk_drew ?_ | refine blk_alloc ?_ _)); exact BK104.out⟩, ⟨by repeat (first | (with_reducible first | exact HB.out | apply below_alloc | apply pw_below_drewN | apply below_drew1 | refine below_set ?_ GE104.out) | exact HB.out)⟩⟩
      · rw [if_neg c6] at H
        have c6b0 : (a0_0 == 2) = false := beq_eq_false_iff_ne.mpr c6
        have c6b1 : (a0_0 != 2) = true := bne_iff_ne.mpr c6
        by_cases c7 : a0_0 = 3
        · rw [if_pos c7] at H
          have c7b0 : (a0_0 == 3) = true := beq_iff_eq.mpr c7
          have c7b1 : (a0_0 != 3) = false := bne_eq_false_iff_eq.mpr c7
          clear c7
          have H' := Aside0.mk H
          clear H
          go_wp2
          go_meet
          case rel => exact ⟨_, ((a0_0 == 3)), (by first | rfl | (simp; done) | (simp [*]; done)), H', ⟨by first | omega | exact Nat.le_refl _⟩, ⟨by (with_reducible repeat (first | refine blk_drewN ?_ _ | refine blk_drew ?_ | refine blk_alloc ?_ _)); exact BK104.out⟩, ⟨by repeat (first | (with_reducible first | exact HB.out | apply below_alloc | apply pw_below_drewN | apply below_drew1 | refine below_set ?_ GE104.out) | exact HB.out)⟩⟩
        · rw [if_neg c7] at H
          have c7b0 : (a0_0 == 3) = false := beq_eq_false_iff_ne.mpr c7
          have c7b1 : (a0_0 != 3) = true := bne_iff_ne.mpr c7
          by_cases c8 : a0_0 = 4
          · rw [if_pos c8] at H
            have c8b0 : (a0_0 == 4) = true := beq_iff_eq.mpr c8
            have c8b1 : (a0_0 != 4) = false := bne_eq_false_iff_eq.mpr c8
            clear c8
            have H' := Aside0.mk H
            clear H
            go_wp2
            go_meet
            case rel => exact ⟨_, ((a0_0 == 4)), (by first | rfl | (simp; done) | (simp [*]; done)), H', ⟨by first | omega | exact Nat.le_refl _⟩, ⟨by (with_reducible repeat (first | refine blk_drewN ?_ _ | refine blk_drew ?_ | refine blk_alloc ?_ _)); exact BK104.out⟩, ⟨by repeat (first | (with_reducible first | exact HB.out | apply below_alloc | apply pw_below_drewN | apply below_drew1 | refine below_set ?_ GE104.out) | exact HB.out)⟩⟩
          · rw [if_neg c8] at H
            have c8b0 : (a0_0 == 4) = false := beq_eq_false_iff_ne.mpr c8
            have c8b1 : (a0_0 != 4) = true := bne_iff_ne.mpr c8
            by_cases c9 : a0_0 = 7
            · rw [if_pos c9] at H
              have c9b0 : (a0_0 == 7) = true := beq_iff_eq.mpr c9
              have c9b1 : (a0_0 != 7) = false := bne_eq_false_iff_eq.mpr c9
              clear c9
              have H' := Aside0.mk H
              clear H
              go_wp2
              go_meet
              case rel => exact ⟨_, ((a0_0 == 7)), (by first | rfl | (simp; done) | (simp [*]; done)), H', ⟨by first | omega | exact Nat.le_refl _⟩, ⟨by (with_reducible repeat (first | refine blk_drewN ?_ _ | refine blk_drew ?_ | refine blk_alloc ?_ _)); exact BK104.out⟩, ⟨by repeat (first | (with_reducible first | exact HB.out | apply below_alloc | apply pw_below_drewN | apply below_drew1 | refine below_set ?_ GE104.out) | exact HB.out)⟩⟩
            · rw [if_neg c9] at H
              have c9b0 : (a0_0 == 7) = false := beq_eq_false_iff_ne.mpr c9
              have c9b1 : (a0_0 != 7) = true := bne_iff_ne.mpr c9
              by_cases c10 : a0_0 = 8
              · rw [if_pos c10] at H
                have c10b0 : (a0_0 == 8) = true := beq_iff_eq.mpr c10
                have c10b1 : (a0_0 != 8) = false := bne_eq_false_iff_eq.mpr c10
                clear c10
                have H' := Aside0.mk H
                clear H
                go_wp2
                go_meet
                case rel => exact ⟨_, ((a0_0 == 8)), (by first | rfl | (simp; done) | (simp [*]; done)), H', ⟨by first | omega | exact Nat.le_refl _⟩, ⟨by (with_reducible repeat (first | refine blk_drewN ?_ _ | refine blk_drew ?_ | refine blk_alloc ?_ _)); exact BK104.out⟩, ⟨by repeat (first | (with_reducible first | exact HB.out | apply below_alloc | apply pw_below_drewN | apply below_drew1 | refine below_set ?_ GE104.out) | exact HB.out)⟩⟩
              · rw [if_neg c10] at H
                have c10b0 : (a0_0 == 8) = false := beq_eq_false_iff_ne.mpr c10
                have c10b1 : (a0_0 != 8) = true := bne_iff_ne.mpr c10
                by_cases c11 : a0_0 = 10
                · rw [if_pos c11] at H
                  have c11b0 : (a0_0 == 10) = true := beq_iff_eq.mpr c11
                  have c11b1 : (a0_0 != 10) = false := bne_eq_false_iff_eq.mpr c11
                  clear c11
                  have H' := Aside0.mk H
                  clear H
                  go_wp2
                  go_meet
                  case rel => exact ⟨_, ((a0_0 == 10)), (by first | rfl | (simp; done) | (simp [*]; done)), H', ⟨by first | omega | exact Nat.le_refl _⟩, ⟨by (with_reducible repeat (first | refine blk_drewN ?_ _ | refine blk_drew ?_ | refine blk_alloc ?_ _)); exact BK104.out⟩, ⟨by repeat (first | (with_reducible first | exact HB.out | apply below_alloc | apply pw_below_drewN | apply below_drew1 | refine below_set ?_ GE104.out) | exact HB.out)⟩⟩
                · rw [if_neg c11] at H
                  have c11b0 : (a0_0 == 10) = false := beq_eq_false_iff_ne.mpr c11
                  have c11b1 : (a0_0 != 10) = true := bne_iff_ne.mpr c11
                  by_cases c12 : a0_0 = 11
                  · rw [if_pos c12] at H
                    have c12b0 : (a0_0 == 11) = true := beq_iff_eq.mpr c12
                    have c12b1 : (a0_0 != 11) = false := bne_eq_false_iff_eq.mpr c12
                    clear c12
                    have H' := Aside0.mk H
                    clear H
                    go_wp2
                    go_meet
                    case rel => exact ⟨_, ((a0_0 == 11)), (by first | rfl | (simp; done) | (simp [*]; done)), H', ⟨by first | omega | exact Nat.le_refl _⟩, ⟨by (with_reducible repeat (first | refine blk_drewN ?_ _ | refine blk_drew ?_ | refine blk_alloc ?_ _)); exact BK104.out⟩, ⟨by repeat (first | (with_reducible first | exact HB.out | apply below_alloc | apply pw_below_drewN | apply below_drew1 | refine below_set ?_ GE104.out) | exact HB.out)⟩⟩
                  · rw [if_neg c12] at H
                    have c12b0 : (a0_0 == 11) = false := beq_eq_false_iff_ne.mpr c12
                    have c12b1 : (a0_0 != 11) = true := bne_iff_ne.mpr c12
                    by_cases c13 : a0_0 = 12
                    · rw [if_pos c13] at H
                      have c13b0 : (a0_0 == 12) = true := beq_iff_eq.mpr c13
                      have c13b1 : (a0_0 != 12) = false := bne_eq_false_iff_eq.mpr c13
                      clear c13
                      have H' := Aside0.mk H
                      clear H
                      go_wp2
                      go_meet
                      case rel => exact ⟨_, ((a0_0 == 12)), (by first | rfl | (simp; done) | (simp [*]; done)), H', ⟨by first | omega | exact Nat.le_refl _⟩, ⟨by (with_reducible repeat (first | refine blk_drewN ?_ _ | refine blk_drew ?_ | refine blk_alloc ?_ _)); exact BK104.out⟩, ⟨by repeat (first | (with_reducible first | exact HB.out | apply below_alloc | apply pw_below_drewN | apply below_drew1 | refine below_set ?_ GE104.out) | exact HB.out)⟩⟩
                    · rw [if_neg c13] at H
                      have c13b0 : (a0_0 == 12) = false := beq_eq_false_iff_ne.mpr c13
                      have c13b1 : (a0_0 != 12) = true := bne_iff_ne.mpr c13
                      by_cases c14 : a0_0 = 13
                      · rw [if_pos c14] at H
                        have c14b0 : (a0_0 == 13) = true := beq_iff_eq.mpr c14
                        have c14b1 : (a0_0 != 13) = false := bne_eq_false_iff_eq.mpr c14
                        clear c14
                        have H' := Aside0.mk H
                        clear H
                        go_wp2
                        go_meet
                        case rel => exact ⟨_, ((a0_0 == 13)), (by first | rfl | (simp; done) | (simp [*]; done)), H', ⟨by first | omega | exact Nat.le_refl _⟩, ⟨by (with_reducible repeat (first | refine blk_drewN ?_ _ | refine blk_drew ?_ | refine blk_alloc ?_ _)); exact BK104.out⟩, ⟨by repeat (first | (with_reducible first | exact HB.out | apply below_alloc | apply pw_below_drewN | apply below_drew1 | refine below_set ?_ GE104.out) | exact HB.out)⟩⟩
                      · rw [if_neg c14] at H
                        have c14b0 : (a0_0 == 13) = false := beq_eq_false_iff_ne.mpr c14
                        have c14b1 : (a0_0 != 13) = true := bne_iff_ne.mpr c14
                        by_cases c15 : a0_0 = 14
                        · rw [if_pos c15] at H
                          have c15b0 : (a0_0 == 14) = true := beq_iff_eq.mpr c15
                          have c15b1 : (a0_0 != 14) = false := bne_eq_false_iff_eq.mpr c15
                          clear c15
                          have H' := Aside0.mk H
                          clear H
                          go_wp2
                          go_meet
                          case rel => exact ⟨_, ((a0_0 == 14)), (by first | rfl | (simp; done) | (simp [*]; done)), H', ⟨by first | omega | exact Nat.le_refl _⟩, ⟨by (with_reducible repeat (first | refine blk_drewN ?_ _ | refine blk_drew ?_ | refine blk_alloc ?_ _)); exact BK104.out⟩, ⟨by repeat (first | (with_reducible first | exact HB.out | apply below_alloc | apply pw_below_drewN | apply below_drew1 | refine below_set ?_ GE104.out) | exact HB.out)⟩⟩
                        · rw [if_neg c15] at H
                          have c15b0 : (a0_0 == 14) = false := beq_eq_false_iff_ne.mpr c15
                          have c15b1 : (a0_0 != 14) = true := bne_iff_ne.mpr c15
                          by_cases c16 : a0_0 = 15
                          · rw [if_pos c16] at H
                            have c16b0 : (a0_0 == 15) = true := beq_iff_eq.mpr c16
                            have c16b1 : (a0_0 != 15) = false := bne_eq_false_iff_eq.mpr c16
                            clear c16
                            have H' := Aside0.mk H
                            clear H
                            go_wp2
                            go_meet
                            case rel => exact ⟨_, ((a0_0 == 15)), (by first | rfl | (simp; done) | (simp [*]; done)), H', ⟨by first | omega | exact Nat.le_refl _⟩, ⟨by (with_reducible repeat (first | refine blk_drewN ?_ _ | refine blk_drew ?_ | refine blk_alloc ?_ _)); exact BK104.out⟩, ⟨by repeat (first | (with_reducible first | exact HB.out | apply below_alloc | apply pw_below_drewN | apply below_drew1 | refine below_set ?_ GE104.out) | exact HB.out)⟩⟩
                          · rw [if_neg c16] at H
                            have c16b0 : (a0_0 == 15) = false := beq_eq_false_iff_ne.mpr c16
                            have c16b1 : (a0_0 != 15) = true := bne_iff_ne.mpr c16
                            by_cases c17 : a0_0 = 17
                            · rw [if_pos c17] at H
                              have c17b0 : (a0_0 == 17) = true := beq_iff_eq.mpr c17
                              have c17b1 : (a0_0 != 17) = false := bne_eq_false_iff_eq.mpr c17
                              clear c17
                              have H' := Aside0.mk H
                              clear H
                              go_wp2
                              go_meet
                              case rel => exact ⟨_, ((a0_0 == 17)), (by first | rfl | (simp; done) | (simp [*]; done)), H', ⟨by first | omega | exact Nat.le_refl _⟩, ⟨by (with_reducible repeat (first | refine blk_drewN ?_ _ | refine blk_drew ?_ | refine blk_alloc ?_ _)); exact BK104.out⟩, ⟨by repeat (first | (with_reducible first | exact HB.out | apply below_alloc | apply pw_below_drewN | apply below_drew1 | refine below_set ?_ GE104.out) | exact HB.out)⟩⟩
                            · rw [if_neg c17] at H
                              have c17b0 : (a0_0 == 17) = false := beq_eq_false_iff_ne.mpr c17
                              have c17b1 : (a0_0 != 17) = true := bne_iff_ne.mpr c17
                              by_cases c18 : a0_0 = 18
                              · rw [if_pos c18] at H
                                have c18b0 : (a0_0 == 18) = true := beq_iff_eq.mpr c18
                                have c18b1 : (a0_0 != 18) = false := bne_eq_false_iff_eq.mpr c18
                                clear c18
                                have H' := Aside0.mk H
                                clear H
                                go_wp2
                                go_meet
                                case rel => exact ⟨_, ((a0_0 == 18)), (by first | rfl | (simp; done) | (simp [*]; done)), H', ⟨by first | omega | exact Nat.le_refl _⟩, ⟨by (with_reducible repeat (first | refine blk_drewN ?_ _ | refine blk_drew ?_ | refine blk_alloc ?_ _)); exact BK104.out⟩, ⟨by repeat (first | (with_reducible first | exact HB.out | apply below_alloc | apply pw_below_drewN | apply below_drew1 | refine below_set ?_ GE104.out) | exact HB.out)⟩⟩
                              · rw [if_neg c18] at H
                                have c18b0 : (a0_0 == 18) = false := beq_eq_false_iff_ne.mpr c18
                                have c18b1 : (a0_0 != 18) = true := bne_iff_ne.mpr c18
                                by_cases c19 : a0_0 = 22
                                · rw [if_pos c19] at H
                                  have c19b0 : (a0_0 == 22) = true := beq_iff_eq.mpr c19
                                  have c19b1 : (a0_0 != 22) = false := bne_eq_false_iff_eq.mpr c19
                                  clear c19
                                  have H' := Aside0.mk H
                                  clear H
                                  go_wp2
                                  go_meet
                                  case rel => exact ⟨_, ((a0_0 == 22)), (by first | rfl | (simp; done) | (simp [*]; done)), H', ⟨by first | omega | exact Nat.le_refl _⟩, ⟨by (with_reducible repeat (first | refine blk_drewN ?_ _ | refine blk_drew ?_ | refine blk_alloc ?_ _)); exact BK104.out⟩, ⟨by repeat (first | (with_reducible first | exact HB.out | apply below_alloc | apply pw_below_drewN | apply below_drew1 | refine below_set ?_ GE104.out) | exact HB.out)⟩⟩
                                · rw [if_neg c19] at H
                                  have c19b0 : (a0_0 == 22) = false := beq_eq_false_iff_ne.mpr c19
                                  have c19b1 : (a0_0 != 22) = true := bne_iff_ne.mpr c19
                                  have H' := Aside0.mk H
                                  clear H
                                  go_wp2
                                  go_meet
                                  case rel => exact ⟨_, ((a0_0 == 26)), (by first | rfl | (simp; done) | (simp [*]; done)), H', ⟨by first | omega | exact Nat.le_refl _⟩, ⟨by (with_reducible repeat (first | refine blk_drewN ?_ _ | refine blk_drew ?_ | refine blk_alloc ?_ _)); exact BK104.out⟩, ⟨by repeat (first | (with_reducible first | exact HB.out | apply below_alloc | apply pw_below_drewN | apply below_drew1 | refine below_set ?_ GE104.out) | exact HB.out)⟩⟩
  case rest =>
    clear HC2
    try clear c1
    try clear p2
    try clear c5
    try clear c5b0
    try clear c5b1
    try clear c6
    try clear c6b0
    try clear c6b1
    try clear c7
    try clear c7b0
    try clear c7b1
    try clear c8
    try clear c8b0
    try clear c8b1
    try clear c9
    try clear c9b0
    try clear c9b1
    try clear c10
    try clear c10b0
    try clear c10b1
    try clear c11
    try clear c11b0
    try clear c11b1
    try clear c12
    try clear c12b0
    try clear c12b1
    try clear c13
    try clear c13b0
    try clear c13b1
    try clear c14
    try clear c14b0
    try clear c14b1
    try clear c15
    try clear c15b0
    try clear c15b1
    try clear c16
    try clear c16b0
    try clear c16b1
    try clear c17
    try clear c17b0
    try clear c17b1
    try clear c18
    try clear c18b0
    try clear c18b1
    try clear c19
    try clear c19b0
    try clear c19b1
    try clear hcz4_0
    try clear hcz4_1
    try clear hcz4_2
    try clear hcz4_3
    try clear hfz4_0
    try clear hfz4_1
    try clear hfz4_2
    try clear hfz4_3
    obtain ⟨kq, x5_1, rfl, HA, HJ1, BK104, HB⟩ := hcut
    cases kq with
    | zero => exact absurd HA.out (by simp [code_Pushes.j0])
    | succ kj1 =>
      have H := HA.out
      clear HA
      simp only [code_Pushes.j0] at H
      by_cases c20 : x5_1 = true
      · subst c20
        have H1 : (some 1) = some r := by rw [if_pos rfl] at H; exact H
        clear H
        have H := H1
        clear H1
        obtain rfl := Option.some.inj H
        go_wp2
        go_ret
        exact ⟨by first | rfl | (simp [errW_none, errW_some] <;> rfl) | (simp [*, errW_none, errW_some] <;> rfl), by repeat (first | (with_reducible first | exact HB.out | apply below_alloc | apply pw_below_drewN | apply below_drew1 | refine below_set ?_ GE104.out) | exact HB.out)⟩
      · replace c20 := Bool.eq_false_iff.mpr c20
        subst c20
        have H1 : (if a0_0 = 23 then (if a0_2 = 1 then (some 1) else (some 0)) else (some 0)) = some r := by rw [if_neg (show ¬ (false = true) by decide)] at H; exact H
        clear H
        have H := H1
        clear H1
        by_cases c21 : a0_0 = 23
        · rw [if_pos c21] at H
          have c21b0 : (a0_0 == 23) = true := beq_iff_eq.mpr c21
          have c21b1 : (a0_0 != 23) = false := bne_eq_false_iff_eq.mpr c21
          clear c21
          by_cases c22 : a0_2 = 1
          · rw [if_pos c22] at H
            have c22b0 : (a0_2 == 1) = true := beq_iff_eq.mpr c22
            have c22b1 : (a0_2 != 1) = false := bne_eq_false_iff_eq.mpr c22
            clear c22
            obtain rfl := Option.some.inj H
            have hcz23_0 : wc.cell? ⟨gb104, 0, none⟩ = some (.int .i64 a0_0) := (blk_cell BK104.out 0).trans rfl
            have hcz23_1 : wc.cell? ⟨gb104, 1, none⟩ = some (.int .i64 a0_1) := (blk_cell BK104.out 1).trans rfl
            have hcz23_2 : wc.cell? ⟨gb104, 2, none⟩ = some (.int .i64 a0_2) := (blk_cell BK104.out 2).trans rfl
            have hcz23_3 : wc.cell? ⟨gb104, 3, none⟩ = some (.slice A0_3 l0_3.length c0_3) := (blk_cell BK104.out 3).trans rfl
            have hfz23_0 := blk_frozen BK104.out 0
            have hfz23_1 := blk_frozen BK104.out 1
            have hfz23_2 := blk_frozen BK104.out 2
            have hfz23_3 := blk_frozen BK104.out 3
            go_wp2
            go_ret
            exact ⟨by first | rfl | (simp [errW_none, errW_some] <;> rfl) | (simp [*, errW_none, errW_some] <;> rfl), by repeat (first | (with_reducible first | exact HB.out | apply below_alloc | apply pw_below_drewN | apply below_drew1 | refine below_set ?_ GE104.out) | exact HB.out)⟩
          · rw [if_neg c22] at H
            have c22b0 : (a0_2 == 1) = false := beq_eq_false_iff_ne.mpr c22
            have c22b1 : (a0_2 != 1) = true := bne_iff_ne.mpr c22
            obtain rfl := Option.some.inj H
            have hcz24_0 : wc.cell? ⟨gb104, 0, none⟩ = some (.int .i64 a0_0) := (blk_cell BK104.out 0).trans rfl
            have hcz24_1 : wc.cell? ⟨gb104, 1, none⟩ = some (.int .i64 a0_1) := (blk_cell BK104.out 1).trans rfl
            have hcz24_2 : wc.cell? ⟨gb104, 2, none⟩ = some (.int .i64 a0_2) := (blk_cell BK104.out 2).trans rfl
            have hcz24_3 : wc.cell? ⟨gb104, 3, none⟩ = some (.slice A0_3 l0_3.length c0_3) := (blk_cell BK104.out 3).trans rfl
            have hfz24_0 := blk_frozen BK104.out 0
            have hfz24_1 := blk_frozen BK104.out 1
            have hfz24_2 := blk_frozen BK104.out 2
            have hfz24_3 := blk_frozen BK104.out 3
            go_wp2
            go_ret
            exact ⟨by first | rfl | (simp [errW_none, errW_some] <;> rfl) | (simp [*, errW_none, errW_some] <;> rfl), by repeat (first | (with_reducible first | exact HB.out | apply below_alloc | apply pw_below_drewN | apply below_drew1 | refine below_set ?_ GE104.out) | exact HB.out)⟩
        · rw [if_neg c21] at H
          have c21b0 : (a0_0 == 23) = false := beq_eq_false_iff_ne.mpr c21
          have c21b1 : (a0_0 != 23) = true := bne_iff_ne.mpr c21
          obtain rfl := Option.some.inj H
          go_wp2
          go_ret
          exact ⟨by first | rfl | (simp [errW_none, errW_some] <;> rfl) | (simp [*, errW_none, errW_some] <;> rfl), by repeat (first | (with_reducible first | exact HB.out | apply below_alloc | apply pw_below_drewN | apply below_drew1 | refine below_set ?_ GE104.out) | exact HB.out)⟩

end Go.Proofs.YtfkfgjmhcfagkaaDoor.Print
