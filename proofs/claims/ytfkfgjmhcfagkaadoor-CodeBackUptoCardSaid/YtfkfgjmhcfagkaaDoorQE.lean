/- Lemmas for the claim (what no proof of it names is left out). -/
import Derived.Test.YtfkfgjmhcfagkaaDoorQA
import Derived.Test.YtfkfgjmhcfagkaaDoorQC
import Derived.Test.YtfkfgjmhcfagkaaDoorQD
import Derived.Deep.Slices
import Derived.ChangeArms
import Derived.DataReads
import Derived.SizedLaws
import Derived.Below
import Derived.Test.YtfkfgjmhcfagkaaDoorRows
import Derived.Deep.DeepWitnessRowRef
import Derived.Deep.DeepHandedRow
import Derived.Lib.LaidIn
import Derived.Lib.LaidTab
import Derived.Stop.LaidErr
import Derived.PinnedBridge
import Derived.ProofKit
import Derived.MakeChecks
import Derived.LaidSub
section
namespace Go.Proofs.YtfkfgjmhcfagkaaDoor.Print
open Go.RowKit
open Go.RowKit Go.Proofs.YtfkfgjmhcfagkaaDoorW.PrintWords Go.Proofs.YtfkfgjmhcfagkaaDoorW.PrintLast Go.Proofs.YtfkfgjmhcfagkaaDoorW.PrintMore
attribute [local go_sem] max2_int min2_int max_two min_two max_three min_three max_four min_four
set_option linter.unusedVariables false
set_option linter.unusedSimpArgs false
def code_Pushes.j0 : Nat → Int → Bool → Int → Int → Int → List Int → Option (Int)
  | 0, _, _, _, _, _, _ => none
  | k + 1, x4, x5, x105000, x105001, x105002, x105003 => if x5 = true then (some 1) else (if x4 = 23 then (if x105002 = 1 then (some 1) else (some 0)) else (some 0))
def code_Pushes.f (k : Nat) (a0_0 : Int) (a0_1 : Int) (a0_2 : Int) (l0_3 : List Int) : Option (Int) := if a0_0 = 1 then (code_Pushes.j0 k a0_0 (a0_0 == 1) a0_0 a0_1 a0_2 l0_3) else (if a0_0 = 2 then (code_Pushes.j0 k a0_0 (a0_0 == 2) a0_0 a0_1 a0_2 l0_3) else (if a0_0 = 3 then (code_Pushes.j0 k a0_0 (a0_0 == 3) a0_0 a0_1 a0_2 l0_3) else (if a0_0 = 4 then (code_Pushes.j0 k a0_0 (a0_0 == 4) a0_0 a0_1 a0_2 l0_3) else (if a0_0 = 7 then (code_Pushes.j0 k a0_0 (a0_0 == 7) a0_0 a0_1 a0_2 l0_3) else (if a0_0 = 8 then (code_Pushes.j0 k a0_0 (a0_0 == 8) a0_0 a0_1 a0_2 l0_3) else (if a0_0 = 10 then (code_Pushes.j0 k a0_0 (a0_0 == 10) a0_0 a0_1 a0_2 l0_3) else (if a0_0 = 11 then (code_Pushes.j0 k a0_0 (a0_0 == 11) a0_0 a0_1 a0_2 l0_3) else (if a0_0 = 12 then (code_Pushes.j0 k a0_0 (a0_0 == 12) a0_0 a0_1 a0_2 l0_3) else (if a0_0 = 13 then (code_Pushes.j0 k a0_0 (a0_0 == 13) a0_0 a0_1 a0_2 l0_3) else (if a0_0 = 14 then (code_Pushes.j0 k a0_0 (a0_0 == 14) a0_0 a0_1 a0_2 l0_3) else (if a0_0 = 15 then (code_Pushes.j0 k a0_0 (a0_0 == 15) a0_0 a0_1 a0_2 l0_3) else (if a0_0 = 17 then (code_Pushes.j0 k a0_0 (a0_0 == 17) a0_0 a0_1 a0_2 l0_3) else (if a0_0 = 18 then (code_Pushes.j0 k a0_0 (a0_0 == 18) a0_0 a0_1 a0_2 l0_3) else (if a0_0 = 22 then (code_Pushes.j0 k a0_0 (a0_0 == 22) a0_0 a0_1 a0_2 l0_3) else (code_Pushes.j0 k a0_0 (a0_0 == 26) a0_0 a0_1 a0_2 l0_3)))))))))))))))
set_option maxHeartbeats 8000000 in
set_option maxRecDepth 100000 in
theorem code_Pushes.calls (k : Nat) (a0_0 : Int) (a0_1 : Int) (a0_2 : Int) (A0_3 : Option Addr) (c0_3 : Nat) (l0_3 : List Int) (r : Int) (w : World) (hr0_3 : Kd.C (Kd.int .i64) w A0_3 l0_3.length l0_3) (hc0_3 : l0_3.length ≤ c0_3) (h : code_Pushes.f k a0_0 a0_1 a0_2 l0_3 = some r) :
    Calls Tryd.prog 16 #[.agg #[.int .i64 a0_0, .int .i64 a0_1, .int .i64 a0_2, .slice A0_3 l0_3.length c0_3]] w fun e w' => e = .returned (.int .i64 r) ∧ Below w.heap.size w w' := by
  have hu28 := Tryd.underlying28
  have HR0_3 := Aside0.mk hr0_3
  have HC0_3 := Aside0.mk hc0_3
  clear hr0_3 hc0_3
  have HB := Aside0.mk (Below.refl w.heap.size w)
  have H : (if a0_0 = 1 then (code_Pushes.j0 k a0_0 (a0_0 == 1) a0_0 a0_1 a0_2 l0_3) else (if a0_0 = 2 then (code_Pushes.j0 k a0_0 (a0_0 == 2) a0_0 a0_1 a0_2 l0_3) else (if a0_0 = 3 then (code_Pushes.j0 k a0_0 (a0_0 == 3) a0_0 a0_1 a0_2 l0_3) else (if a0_0 = 4 then (code_Pushes.j0 k a0_0 (a0_0 == 4) a0_0 a0_1 a0_2 l0_3) else (if a0_0 = 7 then (code_Pushes.j0 k a0_0 (a0_0 == 7) a0_0 a0_1 a0_2 l0_3) else (if a0_0 = 8 then (code_Pushes.j0 k a0_0 (a0_0 == 8) a0_0 a0_1 a0_2 l0_3) else (if a0_0 = 10 then (code_Pushes.j0 k a0_0 (a0_0 == 10) a0_0 a0_1 a0_2 l0_3) else (if a0_0 = 11 then (code_Pushes.j0 k a0_0 (a0_0 == 11) a0_0 a0_1 a0_2 l0_3) else (if a0_0 = 12 then (code_Pushes.j0 k a0_0 (a0_0 == 12) a0_0 a0_1 a0_2 l0_3) else (if a0_0 = 13 then (code_Pushes.j0 k a0_0 (a0_0 == 13) a0_0 a0_1 a0_2 l0_3) else (if a0_0 = 14 then (code_Pushes.j0 k a0_0 (a0_0 == 14) a0_0 a0_1 a0_2 l0_3) else (if a0_0 = 15 then (code_Pushes.j0 k a0_0 (a0_0 == 15) a0_0 a0_1 a0_2 l0_3) else (if a0_0 = 17 then (code_Pushes.j0 k a0_0 (a0_0 == 17) a0_0 a0_1 a0_2 l0_3) else (if a0_0 = 18 then (code_Pushes.j0 k a0_0 (a0_0 == 18) a0_0 a0_1 a0_2 l0_3) else (if a0_0 = 22 then (code_Pushes.j0 k a0_0 (a0_0 == 22) a0_0 a0_1 a0_2 l0_3) else (code_Pushes.j0 k a0_0 (a0_0 == 26) a0_0 a0_1 a0_2 l0_3)))))))))))))))) = some r := h
  clear h
  have HC2 := Aside0.mk H
  clear H
  go_enter Tryd.func16, Tryd.ntmps16
  go_upto_if 5 with (first | ((with_reducible refine gate_dst (N := 1) rfl ?_); refine box_event ?hg (N := 1) ?hd (cs := #[.int .i64 a0_0, .int .i64 a0_1, .int .i64 a0_2, .slice A0_3 l0_3.length c0_3]) (t := 28) ?hr ?_; (case hd => rfl); (case hg => rfl); (case hr => first | (go_simp; done) | (go_simp; rfl)); intro gb104 hg w3 hbox hb; have n0_ := Aside0.mk (below_step (by repeat (first | (with_reducible first | exact HB.out | apply below_alloc | apply pw_below_drewN | apply below_drew1) | exact HB.out)) hb); have n1_ := Aside0.mk (hbox); have n2_ := Aside0.mk ((by rw [hg]; exact (below_size (by repeat (first | (with_reducible first | exact HB.out | apply below_alloc | apply pw_below_drewN | apply below_drew1) | exact HB.out))) : w.heap.size ≤ gb104)); have n3_ := Aside0.mk ((by rw [hg]; exact (below_size (by repeat (first | (with_reducible first | exact HB.out | apply below_alloc | apply pw_below_drewN | apply below_drew1) | exact HB.out))) : w.heap.size ≤ gb104)); clear HB; have HB := n0_; have BK104 := n1_; have GW104 := n2_; have GE104 := n3_; clear n0_ n1_ n2_ n3_; clear hb hbox hg; have hcz4_0 : w3.cell? ⟨gb104, 0, none⟩ = some (.int .i64 a0_0) := (blk_cell BK104.out 0).trans rfl; have hcz4_1 : w3.cell? ⟨gb104, 1, none⟩ = some (.int .i64 a0_1) := (blk_cell BK104.out 1).trans rfl; have hcz4_2 : w3.cell? ⟨gb104, 2, none⟩ = some (.int .i64 a0_2) := (blk_cell BK104.out 2).trans rfl; have hcz4_3 : w3.cell? ⟨gb104, 3, none⟩ = some (.slice A0_3 l0_3.length c0_3) := (blk_cell BK104.out 3).trans rfl; have hfz4_0 := blk_frozen BK104.out 0; have hfz4_1 := blk_frozen BK104.out 1; have hfz4_2 := blk_frozen BK104.out 2; have hfz4_3 := blk_frozen BK104.out 3))
  (try simp only [Act.put, List.setIfInBounds_toArray, List.set_cons_zero, List.set_cons_succ])
  go_cut [5] (fun v5 wc => ∃ (kq : Nat) (x5_1 : Bool), v5 = .bool x5_1 ∧ Aside0 (code_Pushes.j0 kq a0_0 x5_1 a0_0 a0_1 a0_2 l0_3 = some r) ∧ Aside0 (kq ≤ k) ∧ Aside0 (wc.heap[gb104]? = some (.cells #[.int .i64 a0_0, .int .i64 a0_1, .int .i64 a0_2, (.slice A0_3 l0_3.length c0_3)] 28 (0, 0))) ∧ Aside0 (Below w.heap.size w wc))
  case first =>
    have H := HC2.out
    clear HC2
    by_cases c5 : a0_0 = 1
    · rw [if_pos c5] at H
      have c5b0 : (a0_0 == 1) = true := beq_iff_eq.mpr c5
      have c5b1 : (a0_0 != 1) = false := bne_eq_false_iff_eq.mpr c5
      clear c5
      (first | rw [c5b0] | (simp only [i64_w, i32_w]; rw [c5b0]) | skip)
      have H' := Aside0.mk H
      clear H
      go_wp2
      go_meet
      case rel => exact ⟨_, ((a0_0 == 1)), (by first | rfl | (simp; done) | (simp [*]; done)), H', ⟨by first | omega | exact Nat.le_refl _⟩, ⟨by (with_reducible repeat (first | refine blk_drewN ?_ _ | refine blk_drew ?_ | refine blk_alloc ?_ _)); exact BK104.out⟩, ⟨by repeat (first | (with_reducible first | exact HB.out | apply below_alloc | apply pw_below_drewN | apply below_drew1 | refine below_set ?_ GE104.out) | exact HB.out)⟩⟩
    · rw [if_neg c5] at H
      have c5b0 : (a0_0 == 1) = false := beq_eq_false_iff_ne.mpr c5
      have c5b1 : (a0_0 != 1) = true := bne_iff_ne.mpr c5
      (first | rw [c5b0] | (simp only [i64_w, i32_w]; rw [c5b0]) | skip)
      by_cases c6 : a0_0 = 2
      · rw [if_pos c6] at H
        have c6b0 : (a0_0 == 2) = true := beq_iff_eq.mpr c6
        have c6b1 : (a0_0 != 2) = false := bne_eq_false_iff_eq.mpr c6
        clear c6
        have H' := Aside0.mk H
        clear H
        go_wp2
        go_meet
        case rel => exact ⟨_, ((a0_0 == 2)), (by first | rfl | (simp; done) | (simp [*]; done)), H', ⟨by first | omega | exact Nat.le_refl _⟩, ⟨by (with_reducible repeat (first | refine blk_drewN ?_ _ | refine blk_drew ?_ | refine blk_alloc ?_ _)); exact BK104.out⟩, ⟨by repeat (first | (with_reducible first | exact HB.out | apply below_alloc | apply pw_below_drewN | apply below_drew1 | refine below_set ?_ GE104.out) | exact HB.out)⟩⟩
      · rw [if_neg c6] at H
        have c6b0 : (a0_0 == 2) = false := beq_eq_false_iff_ne.mpr c6
        have c6b1 : (a0_0 != 2) = true := bne_iff_ne.mpr c6
        by_cases c7 : a0_0 = 3
        · rw [if_pos c7] at H
          have c7b0 : (a0_0 == 3) = true := beq_iff_eq.mpr c7
          have c7b1 : (a0_0 != 3) = false := bne_eq_false_iff_eq.mpr c7
          clear c7
          have H' := Aside0.mk H
          clear H
          go_wp2
          go_meet
          case rel => exact ⟨_, ((a0_0 == 3)), (by first | rfl | (simp; done) | (simp [*]; done)), H', ⟨by first | omega | exact Nat.le_refl _⟩, ⟨by (with_reducible repeat (first | refine blk_drewN ?_ _ | refine blk_drew ?_ | refine blk_alloc ?_ _)); exact BK104.out⟩, ⟨by repeat (first | (with_reducible first | exact HB.out | apply below_alloc | apply pw_below_drewN | apply below_drew1 | refine below_set ?_ GE104.out) | exact HB.out)⟩⟩
        · rw [if_neg c7] at H
          have c7b0 : (a0_0 == 3) = false := beq_eq_false_iff_ne.mpr c7
          have c7b1 : (a0_0 != 3) = true := bne_iff_ne.mpr c7
          by_cases c8 : a0_0 = 4
          · rw [if_pos c8] at H
            have c8b0 : (a0_0 == 4) = true := beq_iff_eq.mpr c8
            have c8b1 : (a0_0 != 4) = false := bne_eq_false_iff_eq.mpr c8
            clear c8
            have H' := Aside0.mk H
            clear H
            go_wp2
            go_meet
            case rel => exact ⟨_, ((a0_0 == 4)), (by first | rfl | (simp; done) | (simp [*]; done)), H', ⟨by first | omega | exact Nat.le_refl _⟩, ⟨by (with_reducible repeat (first | refine blk_drewN ?_ _ | refine blk_drew ?_ | refine blk_alloc ?_ _)); exact BK104.out⟩, ⟨by repeat (first | (with_reducible first | exact HB.out | apply below_alloc | apply pw_below_drewN | apply below_drew1 | refine below_set ?_ GE104.out) | exact HB.out)⟩⟩
          · rw [if_neg c8] at H
            have c8b0 : (a0_0 == 4) = false := beq_eq_false_iff_ne.mpr c8
            have c8b1 : (a0_0 != 4) = true := bne_iff_ne.mpr c8
            by_cases c9 : a0_0 = 7
            · rw [if_pos c9] at H
              have c9b0 : (a0_0 == 7) = true := beq_iff_eq.mpr c9
              have c9b1 : (a0_0 != 7) = false := bne_eq_false_iff_eq.mpr c9
              clear c9
              have H' := Aside0.mk H
              clear H
              go_wp2
              go_meet
              case rel => exact ⟨_, ((a0_0 == 7)), (by first | rfl | (simp; done) | (simp [*]; done)), H', ⟨by first | omega | exact Nat.le_refl _⟩, ⟨by (with_reducible repeat (first | refine blk_drewN ?_ _ | refine blk_drew ?_ | refine blk_alloc ?_ _)); exact BK104.out⟩, ⟨by repeat (first | (with_reducible first | exact HB.out | apply below_alloc | apply pw_below_drewN | apply below_drew1 | refine below_set ?_ GE104.out) | exact HB.out)⟩⟩
            · rw [if_neg c9] at H
              have c9b0 : (a0_0 == 7) = false := beq_eq_false_iff_ne.mpr c9
              have c9b1 : (a0_0 != 7) = true := bne_iff_ne.mpr c9
              by_cases c10 : a0_0 = 8
              · rw [if_pos c10] at H
                have c10b0 : (a0_0 == 8) = true := beq_iff_eq.mpr c10
                have c10b1 : (a0_0 != 8) = false := bne_eq_false_iff_eq.mpr c10
                clear c10
                have H' := Aside0.mk H
                clear H
                go_wp2
                go_meet
                case rel => exact ⟨_, ((a0_0 == 8)), (by first | rfl | (simp; done) | (simp [*]; done)), H', ⟨by first | omega | exact Nat.le_refl _⟩, ⟨by (with_reducible repeat (first | refine blk_drewN ?_ _ | refine blk_drew ?_ | refine blk_alloc ?_ _)); exact BK104.out⟩, ⟨by repeat (first | (with_reducible first | exact HB.out | apply below_alloc | apply pw_below_drewN | apply below_drew1 | refine below_set ?_ GE104.out) | exact HB.out)⟩⟩
              · rw [if_neg c10] at H
                have c10b0 : (a0_0 == 8) = false := beq_eq_false_iff_ne.mpr c10
                have c10b1 : (a0_0 != 8) = true := bne_iff_ne.mpr c10
                by_cases c11 : a0_0 = 10
                · rw [if_pos c11] at H
                  have c11b0 : (a0_0 == 10) = true := beq_iff_eq.mpr c11
                  have c11b1 : (a0_0 != 10) = false := bne_eq_false_iff_eq.mpr c11
                  clear c11
                  have H' := Aside0.mk H
                  clear H
                  go_wp2
                  go_meet
                  case rel => exact ⟨_, ((a0_0 == 10)), (by first | rfl | (simp; done) | (simp [*]; done)), H', ⟨by first | omega | exact Nat.le_refl _⟩, ⟨by (with_reducible repeat (first | refine blk_drewN ?_ _ | refine blk_drew ?_ | refine blk_alloc ?_ _)); exact BK104.out⟩, ⟨by repeat (first | (with_reducible first | exact HB.out | apply below_alloc | apply pw_below_drewN | apply below_drew1 | refine below_set ?_ GE104.out) | exact HB.out)⟩⟩
                · rw [if_neg c11] at H
                  have c11b0 : (a0_0 == 10) = false := beq_eq_false_iff_ne.mpr c11
                  have c11b1 : (a0_0 != 10) = true := bne_iff_ne.mpr c11
                  by_cases c12 : a0_0 = 11
                  · rw [if_pos c12] at H
                    have c12b0 : (a0_0 == 11) = true := beq_iff_eq.mpr c12
                    have c12b1 : (a0_0 != 11) = false := bne_eq_false_iff_eq.mpr c12
                    clear c12
                    have H' := Aside0.mk H
                    clear H
                    go_wp2
                    go_meet
                    case rel => exact ⟨_, ((a0_0 == 11)), (by first | rfl | (simp; done) | (simp [*]; done)), H', ⟨by first | omega | exact Nat.le_refl _⟩, ⟨by (with_reducible repeat (first | refine blk_drewN ?_ _ | refine blk_drew ?_ | refine blk_alloc ?_ _)); exact BK104.out⟩, ⟨by repeat (first | (with_reducible first | exact HB.out | apply below_alloc | apply pw_below_drewN | apply below_drew1 | refine below_set ?_ GE104.out) | exact HB.out)⟩⟩
                  · rw [if_neg c12] at H
                    have c12b0 : (a0_0 == 11) = false := beq_eq_false_iff_ne.mpr c12
                    have c12b1 : (a0_0 != 11) = true := bne_iff_ne.mpr c12
                    by_cases c13 : a0_0 = 12
                    · rw [if_pos c13] at H
                      have c13b0 : (a0_0 == 12) = true := beq_iff_eq.mpr c13
                      have c13b1 : (a0_0 != 12) = false := bne_eq_false_iff_eq.mpr c13
                      clear c13
                      have H' := Aside0.mk H
                      clear H
                      go_wp2
                      go_meet
                      case rel => exact ⟨_, ((a0_0 == 12)), (by first | rfl | (simp; done) | (simp [*]; done)), H', ⟨by first | omega | exact Nat.le_refl _⟩, ⟨by (with_reducible repeat (first | refine blk_drewN ?_ _ | refine blk_drew ?_ | refine blk_alloc ?_ _)); exact BK104.out⟩, ⟨by repeat (first | (with_reducible first | exact HB.out | apply below_alloc | apply pw_below_drewN | apply below_drew1 | refine below_set ?_ GE104.out) | exact HB.out)⟩⟩
                    · rw [if_neg c13] at H
                      have c13b0 : (a0_0 == 12) = false := beq_eq_false_iff_ne.mpr c13
                      have c13b1 : (a0_0 != 12) = true := bne_iff_ne.mpr c13
                      by_cases c14 : a0_0 = 13
                      · rw [if_pos c14] at H
                        have c14b0 : (a0_0 == 13) = true := beq_iff_eq.mpr c14
                        have c14b1 : (a0_0 != 13) = false := bne_eq_false_iff_eq.mpr c14
                        clear c14
                        have H' := Aside0.mk H
                        clear H
                        go_wp2
                        go_meet
                        case rel => exact ⟨_, ((a0_0 == 13)), (by first | rfl | (simp; done) | (simp [*]; done)), H', ⟨by first | omega | exact Nat.le_refl _⟩, ⟨by (with_reducible repeat (first | refine blk_drewN ?_ _ | refine blk_drew ?_ | refine blk_alloc ?_ _)); exact BK104.out⟩, ⟨by repeat (first | (with_reducible first | exact HB.out | apply below_alloc | apply pw_below_drewN | apply below_drew1 | refine below_set ?_ GE104.out) | exact HB.out)⟩⟩
                      · rw [if_neg c14] at H
                        have c14b0 : (a0_0 == 13) = false := beq_eq_false_iff_ne.mpr c14
                        have c14b1 : (a0_0 != 13) = true := bne_iff_ne.mpr c14
                        by_cases c15 : a0_0 = 14
                        · rw [if_pos c15] at H
                          have c15b0 : (a0_0 == 14) = true := beq_iff_eq.mpr c15
                          have c15b1 : (a0_0 != 14) = false := bne_eq_false_iff_eq.mpr c15
                          clear c15
                          have H' := Aside0.mk H
                          clear H
                          go_wp2
                          go_meet
                          case rel => exact ⟨_, ((a0_0 == 14)), (by first | rfl | (simp; done) | (simp [*]; done)), H', ⟨by first | omega | exact Nat.le_refl _⟩, ⟨by (with_reducible repeat (first | refine blk_drewN ?_ _ | refine blk_drew ?_ | refine blk_alloc ?_ _)); exact BK104.out⟩, ⟨by repeat (first | (with_reducible first | exact HB.out | apply below_alloc | apply pw_below_drewN | apply below_drew1 | refine below_set ?_ GE104.out) | exact HB.out)⟩⟩
                        · rw [if_neg c15] at H
                          have c15b0 : (a0_0 == 14) = false := beq_eq_false_iff_ne.mpr c15
                          have c15b1 : (a0_0 != 14) = true := bne_iff_ne.mpr c15
                          by_cases c16 : a0_0 = 15
                          · rw [if_pos c16] at H
                            have c16b0 : (a0_0 == 15) = true := beq_iff_eq.mpr c16
                            have c16b1 : (a0_0 != 15) = false := bne_eq_false_iff_eq.mpr c16
                            clear c16
                            have H' := Aside0.mk H
                            clear H
                            go_wp2
                            go_meet
                            case rel => exact ⟨_, ((a0_0 == 15)), (by first | rfl | (simp; done) | (simp [*]; done)), H', ⟨by first | omega | exact Nat.le_refl _⟩, ⟨by (with_reducible repeat (first | refine blk_drewN ?_ _ | refine blk_drew ?_ | refine blk_alloc ?_ _)); exact BK104.out⟩, ⟨by repeat (first | (with_reducible first | exact HB.out | apply below_alloc | apply pw_below_drewN | apply below_drew1 | refine below_set ?_ GE104.out) | exact HB.out)⟩⟩
                          · rw [if_neg c16] at H
                            have c16b0 : (a0_0 == 15) = false := beq_eq_false_iff_ne.mpr c16
                            have c16b1 : (a0_0 != 15) = true := bne_iff_ne.mpr c16
                            by_cases c17 : a0_0 = 17
                            · rw [if_pos c17] at H
                              have c17b0 : (a0_0 == 17) = true := beq_iff_eq.mpr c17
                              have c17b1 : (a0_0 != 17) = false := bne_eq_false_iff_eq.mpr c17
                              clear c17
                              have H' := Aside0.mk H
                              clear H
                              go_wp2
                              go_meet
                              case rel => exact ⟨_, ((a0_0 == 17)), (by first | rfl | (simp; done) | (simp [*]; done)), H', ⟨by first | omega | exact Nat.le_refl _⟩, ⟨by (with_reducible repeat (first | refine blk_drewN ?_ _ | refine blk_drew ?_ | refine blk_alloc ?_ _)); exact BK104.out⟩, ⟨by repeat (first | (with_reducible first | exact HB.out | apply below_alloc | apply pw_below_drewN | apply below_drew1 | refine below_set ?_ GE104.out) | exact HB.out)⟩⟩
                            · rw [if_neg c17] at H
                              have c17b0 : (a0_0 == 17) = false := beq_eq_false_iff_ne.mpr c17
                              have c17b1 : (a0_0 != 17) = true := bne_iff_ne.mpr c17
                              by_cases c18 : a0_0 = 18
                              · rw [if_pos c18] at H
                                have c18b0 : (a0_0 == 18) = true := beq_iff_eq.mpr c18
                                have c18b1 : (a0_0 != 18) = false := bne_eq_false_iff_eq.mpr c18
                                clear c18
                                have H' := Aside0.mk H
                                clear H
                                go_wp2
                                go_meet
                                case rel => exact ⟨_, ((a0_0 == 18)), (by first | rfl | (simp; done) | (simp [*]; done)), H', ⟨by first | omega | exact Nat.le_refl _⟩, ⟨by (with_reducible repeat (first | refine blk_drewN ?_ _ | refine blk_drew ?_ | refine blk_alloc ?_ _)); exact BK104.out⟩, ⟨by repeat (first | (with_reducible first | exact HB.out | apply below_alloc | apply pw_below_drewN | apply below_drew1 | refine below_set ?_ GE104.out) | exact HB.out)⟩⟩
                              · rw [if_neg c18] at H
                                have c18b0 : (a0_0 == 18) = false := beq_eq_false_iff_ne.mpr c18
                                have c18b1 : (a0_0 != 18) = true := bne_iff_ne.mpr c18
                                by_cases c19 : a0_0 = 22
                                · rw [if_pos c19] at H
                                  have c19b0 : (a0_0 == 22) = true := beq_iff_eq.mpr c19
                                  have c19b1 : (a0_0 != 22) = false := bne_eq_false_iff_eq.mpr c19
                                  clear c19
                                  have H' := Aside0.mk H
                                  clear H
                                  go_wp2
                                  go_meet
                                  case rel => exact ⟨_, ((a0_0 == 22)), (by first | rfl | (simp; done) | (simp [*]; done)), H', ⟨by first | omega | exact Nat.le_refl _⟩, ⟨by (with_reducible repeat (first | refine blk_drewN ?_ _ | refine blk_drew ?_ | refine blk_alloc ?_ _)); exact BK104.out⟩, ⟨by repeat (first | (with_reducible first | exact HB.out | apply below_alloc | apply pw_below_drewN | apply below_drew1 | refine below_set ?_ GE104.out) | exact HB.out)⟩⟩
                                · rw [if_neg c19] at H
                                  have c19b0 : (a0_0 == 22) = false := beq_eq_false_iff_ne.mpr c19
                                  have c19b1 : (a0_0 != 22) = true := bne_iff_ne.mpr c19
                                  have H' := Aside0.mk H
                                  clear H
                                  go_wp2
                                  go_meet
                                  case rel => exact ⟨_, ((a0_0 == 26)), (by first | rfl | (simp; done) | (simp [*]; done)), H', ⟨by first | omega | exact Nat.le_refl _⟩, ⟨by (with_reducible repeat (first | refine blk_drewN ?_ _ | refine blk_drew ?_ | refine blk_alloc ?_ _)); exact BK104.out⟩, ⟨by repeat (first | (with_reducible first | exact HB.out | apply below_alloc | apply pw_below_drewN | apply below_drew1 | refine below_set ?_ GE104.out) | exact HB.out)⟩⟩
  case rest =>
    clear HC2
    try clear c1
    try clear p2
    try clear c5
    try clear c5b0
    try clear c5b1
    try clear c6
    try clear c6b0
    try clear c6b1
    try clear c7
    try clear c7b0
    try clear c7b1
    try clear c8
    try clear c8b0
    try clear c8b1
    try clear c9
    try clear c9b0
    try clear c9b1
    try clear c10
    try clear c10b0
    try clear c10b1
    try clear c11
    try clear c11b0
    try clear c11b1
    try clear c12
    try clear c12b0
    try clear c12b1
    try clear c13
    try clear c13b0
    try clear c13b1
    try clear c14
    try clear c14b0
    try clear c14b1
    try clear c15
    try clear c15b0
    try clear c15b1
    try clear c16
    try clear c16b0
    try clear c16b1
    try clear c17
    try clear c17b0
    try clear c17b1
    try clear c18
    try clear c18b0
    try clear c18b1
    try clear c19
    try clear c19b0
    try clear c19b1
    try clear hcz4_0
    try clear hcz4_1
    try clear hcz4_2
    try clear hcz4_3
    try clear hfz4_0
    try clear hfz4_1
    try clear hfz4_2
    try clear hfz4_3
    obtain ⟨kq, x5_1, rfl, HA, HJ1, BK104, HB⟩ := hcut
    cases kq with
    | zero => exact absurd HA.out (by simp [code_Pushes.j0])
    | succ kj1 =>
      have H := HA.out
      clear HA
      simp only [code_Pushes.j0] at H
      by_cases c20 : x5_1 = true
      · subst c20
        have H1 : (some 1) = some r := by rw [if_pos rfl] at H; exact H
        clear H
        have H := H1
        clear H1
        obtain rfl := Option.some.inj H
        go_wp2
        go_ret
        exact ⟨by first | rfl | (simp [errW_none, errW_some] <;> rfl) | (simp [*, errW_none, errW_some] <;> rfl), by repeat (first | (with_reducible first | exact HB.out | apply below_alloc | apply pw_below_drewN | apply below_drew1 | refine below_set ?_ GE104.out) | exact HB.out)⟩
      · replace c20 := Bool.eq_false_iff.mpr c20
        subst c20
        have H1 : (if a0_0 = 23 then (if a0_2 = 1 then (some 1) else (some 0)) else (some 0)) = some r := by rw [if_neg (show ¬ (false = true) by decide)] at H; exact H
        clear H
        have H := H1
        clear H1
        by_cases c21 : a0_0 = 23
        · rw [if_pos c21] at H
          have c21b0 : (a0_0 == 23) = true := beq_iff_eq.mpr c21
          have c21b1 : (a0_0 != 23) = false := bne_eq_false_iff_eq.mpr c21
          clear c21
          by_cases c22 : a0_2 = 1
          · rw [if_pos c22] at H
            have c22b0 : (a0_2 == 1) = true := beq_iff_eq.mpr c22
            have c22b1 : (a0_2 != 1) = false := bne_eq_false_iff_eq.mpr c22
            clear c22
            obtain rfl := Option.some.inj H
            have hcz23_0 : wc.cell? ⟨gb104, 0, none⟩ = some (.int .i64 a0_0) := (blk_cell BK104.out 0).trans rfl
            have hcz23_1 : wc.cell? ⟨gb104, 1, none⟩ = some (.int .i64 a0_1) := (blk_cell BK104.out 1).trans rfl
            have hcz23_2 : wc.cell? ⟨gb104, 2, none⟩ = some (.int .i64 a0_2) := (blk_cell BK104.out 2).trans rfl
            have hcz23_3 : wc.cell? ⟨gb104, 3, none⟩ = some (.slice A0_3 l0_3.length c0_3) := (blk_cell BK104.out 3).trans rfl
            have hfz23_0 := blk_frozen BK104.out 0
            have hfz23_1 := blk_frozen BK104.out 1
            have hfz23_2 := blk_frozen BK104.out 2
            have hfz23_3 := blk_frozen BK104.out 3
            go_wp2
            go_ret
            exact ⟨by first | rfl | (simp [errW_none, errW_some] <;> rfl) | (simp [*, errW_none, errW_some] <;> rfl), by repeat (first | (with_reducible first | exact HB.out | apply below_alloc | apply pw_below_drewN | apply below_drew1 | refine below_set ?_ GE104.out) | exact HB.out)⟩
          · rw [if_neg c22] at H
            have c22b0 : (a0_2 == 1) = false := beq_eq_false_iff_ne.mpr c22
            have c22b1 : (a0_2 != 1) = true := bne_iff_ne.mpr c22
            obtain rfl := Option.some.inj H
            have hcz24_0 : wc.cell? ⟨gb104, 0, none⟩ = some (.int .i64 a0_0) := (blk_cell BK104.out 0).trans rfl
            have hcz24_1 : wc.cell? ⟨gb104, 1, none⟩ = some (.int .i64 a0_1) := (blk_cell BK104.out 1).trans rfl
            have hcz24_2 : wc.cell? ⟨gb104, 2, none⟩ = some (.int .i64 a0_2) := (blk_cell BK104.out 2).trans rfl
            have hcz24_3 : wc.cell? ⟨gb104, 3, none⟩ = some (.slice A0_3 l0_3.length c0_3) := (blk_cell BK104.out 3).trans rfl
            have hfz24_0 := blk_frozen BK104.out 0
            have hfz24_1 := blk_frozen BK104.out 1
            have hfz24_2 := blk_frozen BK104.out 2
            have hfz24_3 := blk_frozen BK104.out 3
            go_wp2
            go_ret
            exact ⟨by first | rfl | (simp [errW_none, errW_some] <;> rfl) | (simp [*, errW_none, errW_some] <;> rfl), by repeat (first | (with_reducible first | exact HB.out | apply below_alloc | apply pw_below_drewN | apply below_drew1 | refine below_set ?_ GE104.out) | exact HB.out)⟩
        · rw [if_neg c21] at H
          have c21b0 : (a0_0 == 23) = false := beq_eq_false_iff_ne.mpr c21
          have c21b1 : (a0_0 != 23) = true := bne_iff_ne.mpr c21
          obtain rfl := Option.some.inj H
          go_wp2
          go_ret
          exact ⟨by first | rfl | (simp [errW_none, errW_some] <;> rfl) | (simp [*, errW_none, errW_some] <;> rfl), by repeat (first | (with_reducible first | exact HB.out | apply below_alloc | apply pw_below_drewN | apply below_drew1 | refine below_set ?_ GE104.out) | exact HB.out)⟩
end Go.Proofs.YtfkfgjmhcfagkaaDoor.Print
end
section
namespace Go.Proofs.YtfkfgjmhcfagkaaDoor.Given
open Go.RowKit Go.Proofs.YtfkfgjmhcfagkaaDoorW.PrintWords Go.Proofs.YtfkfgjmhcfagkaaDoorW.PrintLast Go.Proofs.YtfkfgjmhcfagkaaDoorW.PrintMore Go.Proofs.YtfkfgjmhcfagkaaDoor.Print
set_option linter.unusedVariables false
set_option linter.unusedSimpArgs false
def shPs : List S57 := [⟨1, 2, 0, true, [⟨1, -5, 0, []⟩, ⟨27, 0, 0, [0, 2]⟩, ⟨25, 0, 0, []⟩]⟩]
def shTs : List S54 := [⟨6, [1, 0], true⟩]
theorem sh_print : printOf shPs shTs = (⟨#[116, 121, 112, 101, 32, 54, 32, 49, 32, 49, 32, 48, 10, 112, 114, 111, 103, 32, 49, 32, 50, 32, 48, 32, 49, 10, 105, 110, 116, 32, 45, 53, 10, 119, 97, 105, 116, 32, 48, 32, 50, 10, 114, 101, 116, 10]⟩, 0) := by kernel_rfl
theorem sh_size : (fullText shPs shTs).size + 1 ≤ 140737488355328 := by decide +kernel
theorem sh_wt : ∀ t ∈ shTs, wfT t := by
  intro t ht
  rw [shTs, List.mem_singleton] at ht
  subst ht
  exact ⟨by decide, rfl, by decide⟩
theorem sh_wp : ∀ p ∈ shPs, wfP p := by
  intro p hp
  rw [shPs, List.mem_singleton] at hp
  subst hp
  refine ⟨rfl, rfl, rfl, fun x hx => ?_⟩
  simp only [List.mem_cons, List.not_mem_nil, or_false] at hx
  rcases hx with rfl | rfl | rfl <;> exact ⟨by decide, by decide, by decide, by decide⟩
theorem sh_name : nameOf 27 = ⟨#[119, 97, 105, 116]⟩ := by kernel_rfl
theorem sh_op27 : opOf ⟨#[119, 97, 105, 116]⟩ = 27 := by kernel_rfl
theorem R_setRow {α : Type} {d : Kd α} {e base g t : Nat} {ok : Nat → Prop} {w : World} {v : Value} {xs : List α} {cs cs' : Array Value} (h : d.R e w base ok v xs) (hb : w.heap[g]? = some (.cells cs t (0, 0))) (ht : ∀ q, q ∈ e :: d.E → q ≠ t) : d.R e (w.setRow g cs') base ok v xs :=
  Kd.R_mono (Kd.R_step (Kd.R_types h hb ht) (fun k hk _ => setRow_other _ _ _ _ hk.2)) (fun _ hk => hk.1)
set_option maxRecDepth 100000 in
set_option maxHeartbeats 4000000 in
theorem shown_true (w : World) (hL : LW w) : Calls Tryd.prog 9 #[] w fun e w' => e = .returned (.bool true) ∧ Below w.heap.size w w' := by
  have hu28 := Tryd.underlying28
  have hu54 := Tryd.underlying54
  have hu57 := Tryd.underlying57
  have hu36 := Tryd.underlying36
  have HL := Aside0.mk hL
  have HB := Aside0.mk (Below.refl w.heap.size w)
  clear hL
  go_enter Tryd.func9, Tryd.ntmps9
  go_wp2_with (first
    | ((with_reducible refine gate_dst (N := 7) rfl ?_); refine Kd.R_lit (Kd.int .i64) (w0 := w) w.heap.size 3 ?hg (N := 7) ?hd (xs := ([1, 0] : List Int)) (inner := [.int .i64 1, .int .i64 0]) (ok := fun _ => True) (okp := fun _ => True) ?hr ?hp (fun _ hk => hk) trivial ?hb ?hs (by simp) ?_; (case hd => rfl); (case hg => rfl); (case hr => first | (go_simp; done) | (go_simp; rfl)); (case hp => exact (Reps.one (show Kd.M (Kd.int .i64) _ _ _ (1 : Int) [.int .i64 1] from rfl) (Reps.one (show Kd.M (Kd.int .i64) _ _ _ (0 : Int) [.int .i64 0] from rfl) (Reps.none _ _)))); (case hb => exact HB.out); (case hs => exact HB.out.size); intro v7 w7 ho hb hg_ hn_; obtain ⟨A7, c7, rfl⟩ := Kd.R_slice ho; have HR7 := Aside0.mk ho; clear HB; have HB := Aside0.mk hb; clear ho hb hg_ hn_)
    | ((with_reducible refine gate_dst (N := 9) rfl ?_); refine Kd.R_lit k54 (w0 := w) w.heap.size 54 ?hg (N := 9) ?hd (xs := ([⟨6, [1, 0], true⟩] : List S54)) (inner := [.int .i64 6, .slice A7 2 c7, .bool true]) (ok := fun _ => True) (okp := fun _ => True) ?hr ?hp (fun _ hk => hk) trivial ?hb ?hs (by simp) ?_; (case hd => rfl); (case hg => rfl); (case hr => first | (go_simp; done) | (go_simp; rfl)); (case hp => exact (Reps.c3 (k54_mkM _ _ _ ⟨6, [1, 0], true⟩ HR7.out) (Reps.none _ _))); (case hb => exact HB.out); (case hs => exact HB.out.size); intro v9 w9 ho hb hg_ hn_; obtain ⟨A9, c9, rfl⟩ := Kd.R_slice ho; have HR9 := Aside0.mk ho; have m_ := Aside0.mk (Kd.R_grown HR7.out hg_ (fun _ _ => by simp)); clear HR7; have HR7 := m_; clear m_; clear HB; have HB := Aside0.mk hb; clear ho hb hg_ hn_)
    | ((with_reducible refine gate_dst (N := 11) rfl ?_); refine Kd.R_lit (Kd.int .i64) (w0 := w) w.heap.size 3 ?hg (N := 11) ?hd (xs := ([0, 2] : List Int)) (inner := [.int .i64 0, .int .i64 2]) (ok := fun _ => True) (okp := fun _ => True) ?hr ?hp (fun _ hk => hk) trivial ?hb ?hs (by simp) ?_; (case hd => rfl); (case hg => rfl); (case hr => first | (go_simp; done) | (go_simp; rfl)); (case hp => exact (Reps.one (show Kd.M (Kd.int .i64) _ _ _ (0 : Int) [.int .i64 0] from rfl) (Reps.one (show Kd.M (Kd.int .i64) _ _ _ (2 : Int) [.int .i64 2] from rfl) (Reps.none _ _)))); (case hb => exact HB.out); (case hs => exact HB.out.size); intro v11 w11 ho hb hg_ hn_; obtain ⟨A11, c11, rfl⟩ := Kd.R_slice ho; have HR11 := Aside0.mk ho; have m_ := Aside0.mk (Kd.R_grown HR7.out hg_ (fun _ _ => by simp)); clear HR7; have HR7 := m_; clear m_; have m_ := Aside0.mk (Kd.R_grown HR9.out hg_ (fun _ _ => by simp)); clear HR9; have HR9 := m_; clear m_; clear HB; have HB := Aside0.mk hb; clear ho hb hg_ hn_)
    | ((with_reducible refine gate_dst (N := 14) rfl ?_); refine Kd.R_lit k28 (w0 := w) w.heap.size 28 ?hg (N := 14) ?hd (xs := ([⟨1, -5, 0, []⟩, ⟨27, 0, 0, [0, 2]⟩, ⟨25, 0, 0, []⟩] : List S28)) (inner := [.int .i64 1, .int .i64 (-5), .int .i64 0, .slice none 0 0, .int .i64 27, .int .i64 0, .int .i64 0, .slice A11 2 c11, .int .i64 25, .int .i64 0, .int .i64 0, .slice none 0 0]) (ok := fun _ => True) (okp := fun _ => True) ?hr ?hp (fun _ hk => hk) trivial ?hb ?hs (by simp) ?_; (case hd => rfl); (case hg => rfl); (case hr => first | (go_simp; done) | (go_simp; rfl)); (case hp => exact (Reps.c4 (k28_mkM _ _ _ ⟨1, -5, 0, []⟩ (Kd.R_nil _ _ _ _ _)) (Reps.c4 (k28_mkM _ _ _ ⟨27, 0, 0, [0, 2]⟩ HR11.out) (Reps.c4 (k28_mkM _ _ _ ⟨25, 0, 0, []⟩ (Kd.R_nil _ _ _ _ _)) (Reps.none _ _))))); (case hb => exact HB.out); (case hs => exact HB.out.size); intro v14 w14 ho hb hg_ hn_; obtain ⟨A14, c14, rfl⟩ := Kd.R_slice ho; have HR14 := Aside0.mk ho; have m_ := Aside0.mk (Kd.R_grown HR7.out hg_ (fun _ _ => by simp)); clear HR7; have HR7 := m_; clear m_; have m_ := Aside0.mk (Kd.R_grown HR9.out hg_ (fun _ _ => by simp)); clear HR9; have HR9 := m_; clear m_; have m_ := Aside0.mk (Kd.R_grown HR11.out hg_ (fun _ _ => by simp)); clear HR11; have HR11 := m_; clear m_; clear HB; have HB := Aside0.mk hb; clear ho hb hg_ hn_)
    | ((with_reducible refine gate_dst (N := 16) rfl ?_); refine Kd.R_lit k57 (w0 := w) w.heap.size 57 ?hg (N := 16) ?hd (xs := ([⟨1, 2, 0, true, [⟨1, -5, 0, []⟩, ⟨27, 0, 0, [0, 2]⟩, ⟨25, 0, 0, []⟩]⟩] : List S57)) (inner := [.int .i64 1, .int .i64 2, .int .i64 0, .bool true, .slice A14 3 c14]) (ok := fun _ => True) (okp := fun _ => True) ?hr ?hp (fun _ hk => hk) trivial ?hb ?hs (by simp) ?_; (case hd => rfl); (case hg => rfl); (case hr => first | (go_simp; done) | (go_simp; rfl)); (case hp => exact (Reps.c5 (k57_mkM _ _ _ ⟨1, 2, 0, true, [⟨1, -5, 0, []⟩, ⟨27, 0, 0, [0, 2]⟩, ⟨25, 0, 0, []⟩]⟩ HR14.out) (Reps.none _ _))); (case hb => exact HB.out); (case hs => exact HB.out.size); intro v16 w16 ho hb hg_ hn_; obtain ⟨A16, c16, rfl⟩ := Kd.R_slice ho; have HR16 := Aside0.mk ho; have m_ := Aside0.mk (Kd.R_grown HR9.out hg_ (fun _ _ => by simp)); clear HR9; have HR9 := m_; clear m_; have m_ := Aside0.mk (Kd.R_grown HR14.out hg_ (fun _ _ => by simp)); clear HR14; have HR14 := m_; clear m_; clear HB; have HB := Aside0.mk hb; clear ho hb hg_ hn_)
    | ((with_reducible refine gate_dst (N := 1) rfl ?_); refine box_event ?hg (N := 1) ?hd (cs := #[.slice none 0 0, .slice none 0 0]) (t := 36) ?hr ?_; (case hd => rfl); (case hg => rfl); (case hr => first | (go_simp; done) | (go_simp; rfl)); intro g1 hg w1 hbox hb; have BK1 := Aside0.mk hbox; have GE1 := Aside0.mk (show w.heap.size ≤ g1 by rw [hg]; exact HB.out.size); have m_ := Aside0.mk (Kd.R_below HR9.out hb); clear HR9; have HR9 := m_; clear m_; have m_ := Aside0.mk (Kd.R_below HR16.out hb); clear HR16; have HR16 := m_; clear m_; have n3_ := Aside0.mk (below_then HB.out HB.out.size hb); clear HB; have HB := n3_; clear n3_ hg hbox hb)
    | (refine wpList_store_row rfl 36 (.tmp 1) (.tmp 17) rfl g1 #[.slice A16 1 c16, .slice A9 1 c9] rfl rfl 36 _ BK1.out (by kernel_rfl) rfl (by kernel_rfl) ?_; have n0_ : Aside0 ((w1.setRow g1 #[.slice A16 1 c16, .slice A9 1 c9]).heap[g1]? = some (.cells #[.slice A16 1 c16, .slice A9 1 c9] 36 (0, 0))) := ⟨setRow_heap _ _ _ _ _ _ BK1.out⟩; have n1_ := Aside0.mk (below_setRow HB.out GE1.out #[.slice A16 1 c16, .slice A9 1 c9]); have r9_ := Aside0.mk (R_setRow HR9.out BK1.out (by decide) (cs' := #[.slice A16 1 c16, .slice A9 1 c9])); have r16_ := Aside0.mk (R_setRow HR16.out BK1.out (by decide) (cs' := #[.slice A16 1 c16, .slice A9 1 c9])); generalize w1.setRow g1 #[.slice A16 1 c16, .slice A9 1 c9] = ws1 at n0_ n1_ r9_ r16_ ⊢; clear BK1 HB; have BK1 := n0_; have HB := n1_; clear n0_ n1_; clear HR9; have HR9 := r9_; clear r9_; clear HR16; have HR16 := r16_; clear r16_; have y0 : ws1.cell? ⟨g1, 0, none⟩ = some (.slice A16 1 c16) := (blk_cell BK1.out 0).trans rfl; have y1 : ws1.cell? ⟨g1, 1, none⟩ = some (.slice A9 1 c9) := (blk_cell BK1.out 1).trans rfl))
  clear hu54 hu57
  have m16 := Aside0.mk (Kd.R_reads' HR16.out).2.2
  have m9 := Aside0.mk (Kd.R_reads' HR9.out).2.2
  clear HR16 HR9 HR14 HR11 HR7
  go_wp2_with (first
    | (go_at_call 22; refine (print_any A16 c16 shPs A9 c9 shTs _ m16.out m9.out (HL.out.below HB.out) sh_wt sh_wp sh_size).mono ?_; rw [sh_print]; rintro e wa ⟨rfl, hb⟩; have n3_ := Aside0.mk (below_then HB.out HB.out.size hb); clear HB hb; have HB := n3_; clear n3_))
  clear m16 m9 y0 y1 BK1
  go_wp2_with (first
    | ((with_reducible refine gate_dst (N := 4) rfl ?_); refine box_event ?hg (N := 4) ?hd (cs := #[.slice none 0 0, .slice none 0 0]) (t := 36) ?hr ?_; (case hd => rfl); (case hg => rfl); (case hr => first | (go_simp; done) | (go_simp; rfl)); intro g4 hg wb hbox hb; have BK4 := Aside0.mk hbox; have GE4 := Aside0.mk (show w.heap.size ≤ g4 by rw [hg]; exact HB.out.size); have n3_ := Aside0.mk (below_then HB.out HB.out.size hb); clear HB; have HB := n3_; clear n3_ hg hbox hb)
    | (refine wpList_store_row rfl 36 (.tmp 4) (.tmp 25) rfl g4 #[.slice none 0 0, .slice none 0 0] rfl rfl 36 _ BK4.out (by kernel_rfl) rfl (by kernel_rfl) ?_; have n0_ : Aside0 ((wb.setRow g4 #[.slice none 0 0, .slice none 0 0]).heap[g4]? = some (.cells #[.slice none 0 0, .slice none 0 0] 36 (0, 0))) := ⟨setRow_heap _ _ _ _ _ _ BK4.out⟩; have n1_ := Aside0.mk (below_setRow HB.out GE4.out #[.slice none 0 0, .slice none 0 0]); generalize wb.setRow g4 #[.slice none 0 0, .slice none 0 0] = ws4 at n0_ n1_ ⊢; clear BK4 HB; have BK4 := n0_; have HB := n1_; clear n0_ n1_)
    | (go_at_call 26; refine (parse_shown _ (HL.out.below HB.out)).mono ?_; rintro e wc ⟨rfl, hb⟩; have n3_ := Aside0.mk (below_then HB.out HB.out.size hb); clear HB hb; have HB := n3_; clear n3_))
  clear BK4
  have PA := Aside0.mk True.intro
  go_wp2_with (first
    | (go_at_call 10; refine (name_any 27 _).mono ?_; rw [sh_name]; rintro e wd ⟨rfl, hb⟩; have n3_ := Aside0.mk (below_then HB.out HB.out.size hb); clear HB hb; have HB := n3_; clear n3_)
    | (go_at_call 11; refine (op_any _ _).mono ?_; rw [sh_op27]; rintro e we ⟨rfl, hb⟩; have n3_ := Aside0.mk (below_then HB.out HB.out.size hb); clear HB hb; have HB := n3_; clear n3_)
    | (go_at_call 15; clear PA; refine (code_Pops.calls 5 23 2 0 none 0 [] 3 _ (Kd.C_nil _ _) (Nat.le_refl _) (by kernel_rfl)).mono ?_; rintro e wf ⟨rfl, hb⟩; have n3_ := Aside0.mk (below_then HB.out HB.out.size hb); clear HB hb; have HB := n3_; clear n3_)
    | (go_at_call 15; refine (code_Pops.calls 5 23 9223372036854775807 0 none 0 [] 9223372036854775807 _ (Kd.C_nil _ _) (Nat.le_refl _) (by kernel_rfl)).mono ?_; rintro e wf ⟨rfl, hb⟩; have n3_ := Aside0.mk (below_then HB.out HB.out.size hb); clear HB hb; have HB := n3_; clear n3_)
    | (go_at_call 16; refine (code_Pushes.calls 5 23 0 1 none 0 [] 1 _ (Kd.C_nil _ _) (Nat.le_refl _) (by kernel_rfl)).mono ?_; rintro e wf ⟨rfl, hb⟩; have n3_ := Aside0.mk (below_then HB.out HB.out.size hb); clear HB hb; have HB := n3_; clear n3_))
  go_returns
  exact ⟨rfl, HB.out⟩
end Go.Proofs.YtfkfgjmhcfagkaaDoor.Given
end
section
namespace Go.Proofs.YtfkfgjmhcfagkaaDoor.Given
open Go.RowKit Go.Proofs.YtfkfgjmhcfagkaaDoorW.PrintWords Go.Proofs.YtfkfgjmhcfagkaaDoorW.PrintLast Go.Proofs.YtfkfgjmhcfagkaaDoorW.PrintMore Go.Proofs.YtfkfgjmhcfagkaaDoor.Print
set_option linter.unusedVariables false
set_option linter.unusedSimpArgs false
theorem parse_call (text : ByteArray) (qs : List S57) (us : List S54) (n : Nat) (ni z : Int) (w : World) (hL : LW w) (hs : text.size < 4294967281) (h : parseOf text = (qs, us, n, z)) (hn : (n : Int) = ni) :
    Calls Tryd.prog 26 #[.string text] w fun e w' => ∃ A c B d, e = .returned (.tuple #[.agg #[.slice A qs.length c, .slice B us.length d], .int .i64 ni, .int .i64 z]) ∧ Kd.C k57 w' A qs.length qs ∧ Kd.C k54 w' B us.length us ∧ Below w.heap.size w w' := by
  refine (parse_any text w hL hs).mono ?_
  rw [h]
  rintro e w' ⟨P, T, okP, okT, he, hP, hT, _, hb⟩
  obtain ⟨A, c, rfl, _, hA⟩ := Kd.S_reads hP
  obtain ⟨B, d, rfl, _, hB⟩ := Kd.S_reads hT
  subst hn
  exact ⟨A, c, B, d, he, k57q_C hA, k54q_C hB, hb⟩
theorem read_says (text : ByteArray) (hs : text.size < 4294967281) :
    (∃ qs us, parseOf text = (qs, us, 0, 0) ∧ printOf qs us = (text, 0) ∧ (∀ t ∈ us, wfT t) ∧ (∀ p ∈ qs, wfP p) ∧ (fullText qs us).size + 1 ≤ 140737488355328) ∨
    ∃ n : Nat, 1 ≤ n ∧ parseOf text = ([], [], n, 80) := by
  rcases read_gives text hs with ⟨h1, h2, h3⟩ | ⟨h1, h2, h3, h4⟩
  · exact Or.inl ⟨_, _, Prod.ext rfl (Prod.ext rfl (Prod.ext h2 h1)), h3⟩
  · exact Or.inr ⟨_, h2, Prod.ext h3 (Prod.ext h4 (Prod.ext rfl h1))⟩
set_option maxRecDepth 100000 in
set_option maxHeartbeats 8000000 in
theorem back_walk (A0 A1 : Option Addr) (c0 c1 : Nat) (ps : List S57) (ts : List S54) (text : ByteArray) (w : World) (hp : Kd.C k57 w A0 ps.length ps) (ht : Kd.C k54 w A1 ts.length ts) (hc0 : ps.length ≤ c0) (hc1 : ts.length ≤ c1) (hL : LW w) (hgp : ∀ p ∈ ps, rngP p) (hgt : ∀ t ∈ ts, goodT t)
    (hl : ps.length ≤ 4611686018427387904) (hm : ∀ p ∈ ps, p.f4.length ≤ 4611686018427387904) (hlt : ts.length ≤ 4611686018427387904) (hs : text.size < 4294967281) :
    Calls Tryd.prog 7 #[.agg #[.slice A0 ps.length c0, .slice A1 ts.length c1], .string text] w fun e w' => e = .returned (.bool true) ∧ Below w.heap.size w w' := by
  have hu36 := Tryd.underlying36
  obtain ⟨kb, hkb⟩ := beyond_says ps ts hl hm hlt
  have HP := Aside0.mk hp
  have HT := Aside0.mk ht
  have HL := Aside0.mk hL
  have HGP := Aside0.mk hgp
  have HGT := Aside0.mk hgt
  have HC0 := Aside0.mk hc0
  have HC1 := Aside0.mk hc1
  have HS := Aside0.mk hs
  have HB := Aside0.mk (Below.refl w.heap.size w)
  clear hp ht hL hgp hgt hl hm hlt hc0 hc1 hs
  by_cases hbig : tsz ts + psz ps ≤ 2147483647
  · rw [decide_eq_false (fun h => h hbig)] at hkb
    have HK := Aside0.mk hkb
    have SM := Aside0.mk (small_gives ps ts HGP.out HGT.out hbig)
    clear hkb hbig
    by_cases hcl : cleanProgs ps = true
    · have HPR := Aside0.mk (show printOf ps ts = (fullText ps ts, 0) by unfold printOf; rw [if_pos hcl])
      have HPT := Aside0.mk (parse_there ps ts HGT.out (clean_good HGP.out hcl))
      have PA := Aside0.mk True.intro
      have PB := Aside0.mk True.intro
      clear hcl
      rcases read_says text HS.out with ⟨qs, us, hq, hpq, hrg⟩ | ⟨n, hn, hq⟩
      · have HQ := Aside0.mk hq
        have HPQ := Aside0.mk hpq
        have RG := Aside0.mk hrg
        clear hq hpq hrg
        go_enter Tryd.func7, Tryd.ntmps7
        go_wp2_with (first
          | ((with_reducible refine gate_dst (N := 2) rfl ?_); refine box_event ?hg (N := 2) ?hd (cs := #[.slice A0 ps.length c0, .slice A1 ts.length c1]) (t := 36) ?hr ?_; (case hd => rfl); (case hg => rfl); (case hr => first | (go_simp; done) | (go_simp; rfl)); intro g2 hg w2 hbox hb; have n0_ := Aside0.mk (below_step HB.out hb); have nk_ := Aside0.mk hbox; have ng_ := Aside0.mk (show w.heap.size ≤ g2 by rw [hg]; exact HB.out.size); clear HB; have HB := n0_; have BK := nk_; clear n0_ nk_ ng_ hb hbox hg; have x0 : w2.cell? ⟨g2, 0, none⟩ = some (.slice A0 ps.length c0) := (blk_cell BK.out 0).trans rfl; have x1 : w2.cell? ⟨g2, 1, none⟩ = some (.slice A1 ts.length c1) := (blk_cell BK.out 1).trans rfl)
          | (go_at_call 20; refine (squintlaw08_beyond.calls kb A0 c0 ps A1 c1 ts _ _ (Kd.C_below HP.out HB.out) HC0.out (Kd.C_below HT.out HB.out) HC1.out HK.out).mono ?_; rintro e w3 ⟨rfl, hb⟩; have n0_ := Aside0.mk (below_step HB.out hb); have nk0_ := Aside0.mk (blk_below BK.out hb); clear HB; have HB := n0_; clear n0_; clear BK; have BK := nk0_; clear nk0_; clear x0 x1 hb)
          | (go_at_call 9; refine (shown_true _ (HL.out.below HB.out)).mono ?_; rintro e w4 ⟨rfl, hb⟩; have n0_ := Aside0.mk (below_step HB.out hb); have nk0_ := Aside0.mk (blk_below BK.out hb); clear HB; have HB := n0_; clear n0_; clear BK; have BK := nk0_; clear nk0_; clear hb; have x0 : w4.cell? ⟨g2, 0, none⟩ = some (.slice A0 ps.length c0) := (blk_cell BK.out 0).trans rfl; have x1 : w4.cell? ⟨g2, 1, none⟩ = some (.slice A1 ts.length c1) := (blk_cell BK.out 1).trans rfl)
          | (go_at_call 22; clear PB; refine (print_any A0 c0 ps A1 c1 ts _ (Kd.C_below HP.out HB.out) (Kd.C_below HT.out HB.out) (HL.out.below HB.out) SM.out.1 SM.out.2.1 (by have := SM.out.2.2.1; omega)).mono ?_; rw [HPR.out]; rintro e w5 ⟨rfl, hb⟩; have n0_ := Aside0.mk (below_step HB.out hb); have nk0_ := Aside0.mk (blk_below BK.out hb); clear HB; have HB := n0_; clear n0_; clear BK; have BK := nk0_; clear nk0_; clear x0 x1 hb)
          | (go_at_call 26; clear PA; refine (parse_call (fullText ps ts) ps ts 0 0 0 _ (HL.out.below HB.out) (by have := SM.out.2.2.1; omega) HPT.out rfl).mono ?_; rintro e w6 ⟨A6, c6, A7, c7, rfl, hC6, hC7, hb⟩; have n0_ := Aside0.mk (below_step HB.out hb); have nk0_ := Aside0.mk (blk_below BK.out hb); clear HB; have HB := n0_; clear n0_; clear BK; have BK := nk0_; clear nk0_; have C6 := Aside0.mk hC6; have C7 := Aside0.mk hC7; clear hC6 hC7 hb)
          | ((with_reducible refine gate_dst (N := 7) rfl ?_); refine box_event ?hg (N := 7) ?hd (cs := #[.slice none 0 0, .slice none 0 0]) (t := 36) ?hr ?_; (case hd => rfl); (case hg => rfl); (case hr => first | (go_simp; done) | (go_simp; rfl)); intro g7 hg w7 hbox hb; have nk_ := Aside0.mk hbox; have NB := Aside0.mk hb; have NG := Aside0.mk (show w6.heap.size ≤ g7 by rw [hg]; exact Nat.le_refl _); have NK := nk_; clear nk_ hb hbox hg)
          | (refine wpList_store_row rfl 36 (.tmp 7) (.tmp 35) rfl g7 #[.slice A6 ps.length c6, .slice A7 ts.length c7] rfl rfl 36 _ NK.out (by kernel_rfl) rfl (by kernel_rfl) ?_; have n0_ : Aside0 ((w7.setRow g7 #[.slice A6 ps.length c6, .slice A7 ts.length c7]).heap[g7]? = some (.cells #[.slice A6 ps.length c6, .slice A7 ts.length c7] 36 (0, 0))) := ⟨setRow_heap _ _ _ _ _ _ NK.out⟩; have n1_ := Aside0.mk (below_setRow NB.out NG.out #[.slice A6 ps.length c6, .slice A7 ts.length c7]); generalize w7.setRow g7 #[.slice A6 ps.length c6, .slice A7 ts.length c7] = w8 at n0_ n1_ ⊢; clear NK NB NG; have NK := n0_; have hb := n1_.out; clear n0_ n1_; have n0_ := Aside0.mk (below_step HB.out hb); have nk0_ := Aside0.mk (blk_below BK.out hb); clear HB; have HB := n0_; clear n0_; clear BK; have BK := nk0_; clear nk0_; have m_ := Aside0.mk (Kd.C_below C6.out hb); clear C6; have C6 := m_; clear m_; have m_ := Aside0.mk (Kd.C_below C7.out hb); clear C7; have C7 := m_; clear m_; clear hb; have y0 : w8.cell? ⟨g7, 0, none⟩ = some (.slice A6 ps.length c6) := (blk_cell NK.out 0).trans rfl; have y1 : w8.cell? ⟨g7, 1, none⟩ = some (.slice A7 ts.length c7) := (blk_cell NK.out 1).trans rfl; have x0 : w8.cell? ⟨g2, 0, none⟩ = some (.slice A0 ps.length c0) := (blk_cell BK.out 0).trans rfl; have x1 : w8.cell? ⟨g2, 1, none⟩ = some (.slice A1 ts.length c1) := (blk_cell BK.out 1).trans rfl)
          | (go_at_call 28; refine (same_unit A6 A7 A0 A1 c6 c7 c0 c1 ps ts _ C6.out C7.out (Kd.C_below HP.out HB.out) (Kd.C_below HT.out HB.out) SM.out.2.2.2.1 SM.out.2.2.2.2).mono ?_; rintro e w9 ⟨rfl, hb⟩; have n0_ := Aside0.mk (below_step HB.out hb); clear HB; have HB := n0_; clear n0_ x0 x1 y0 y1 BK NK C6 C7 hb)
          | (go_at_call 26; refine (parse_call text qs us 0 0 0 _ (HL.out.below HB.out) HS.out HQ.out rfl).mono ?_; rintro e wa ⟨Aa, ca, Ab, cb, rfl, hCa, hCb, hb⟩; have n0_ := Aside0.mk (below_step HB.out hb); clear HB; have HB := n0_; clear n0_; have Ca := Aside0.mk hCa; have Cb := Aside0.mk hCb; clear hCa hCb hb)
          | ((with_reducible refine gate_dst (N := 10) rfl ?_); refine box_event ?hg (N := 10) ?hd (cs := #[.slice none 0 0, .slice none 0 0]) (t := 36) ?hr ?_; (case hd => rfl); (case hg => rfl); (case hr => first | (go_simp; done) | (go_simp; rfl)); intro ga hg wb hbox hb; have nk_ := Aside0.mk hbox; have NB := Aside0.mk hb; have NG := Aside0.mk (show wa.heap.size ≤ ga by rw [hg]; exact Nat.le_refl _); have NK := nk_; clear nk_ hb hbox hg)
          | (refine wpList_store_row rfl 36 (.tmp 10) (.tmp 53) rfl ga #[.slice Aa qs.length ca, .slice Ab us.length cb] rfl rfl 36 _ NK.out (by kernel_rfl) rfl (by kernel_rfl) ?_; have n0_ : Aside0 ((wb.setRow ga #[.slice Aa qs.length ca, .slice Ab us.length cb]).heap[ga]? = some (.cells #[.slice Aa qs.length ca, .slice Ab us.length cb] 36 (0, 0))) := ⟨setRow_heap _ _ _ _ _ _ NK.out⟩; have n1_ := Aside0.mk (below_setRow NB.out NG.out #[.slice Aa qs.length ca, .slice Ab us.length cb]); generalize wb.setRow ga #[.slice Aa qs.length ca, .slice Ab us.length cb] = wc at n0_ n1_ ⊢; clear NK NB NG; have NK := n0_; have hb := n1_.out; clear n0_ n1_; have n0_ := Aside0.mk (below_step HB.out hb); clear HB; have HB := n0_; clear n0_; have m_ := Aside0.mk (Kd.C_below Ca.out hb); clear Ca; have Ca := m_; clear m_; have m_ := Aside0.mk (Kd.C_below Cb.out hb); clear Cb; have Cb := m_; clear m_; clear hb; have y0 : wc.cell? ⟨ga, 0, none⟩ = some (.slice Aa qs.length ca) := (blk_cell NK.out 0).trans rfl; have y1 : wc.cell? ⟨ga, 1, none⟩ = some (.slice Ab us.length cb) := (blk_cell NK.out 1).trans rfl)
          | (go_at_call 22; refine (print_any Aa ca qs Ab cb us _ Ca.out Cb.out (HL.out.below HB.out) RG.out.1 RG.out.2.1 RG.out.2.2).mono ?_; rw [HPQ.out]; rintro e wd ⟨rfl, hb⟩; have n0_ := Aside0.mk (below_step HB.out hb); clear HB; have HB := n0_; clear n0_ y0 y1 hb))
        go_returns
        exact ⟨rfl, HB.out⟩
      · have HQ := Aside0.mk hq
        clear hq
        obtain ⟨ni, hni⟩ : ∃ ni : Int, (n : Int) = ni := ⟨_, rfl⟩
        have HNI := Aside0.mk hni
        have hd : decide (ni > 0) = true := decide_eq_true (by omega)
        clear hn hni
        go_enter Tryd.func7, Tryd.ntmps7
        go_wp2_with (first
          | ((with_reducible refine gate_dst (N := 2) rfl ?_); refine box_event ?hg (N := 2) ?hd (cs := #[.slice A0 ps.length c0, .slice A1 ts.length c1]) (t := 36) ?hr ?_; (case hd => rfl); (case hg => rfl); (case hr => first | (go_simp; done) | (go_simp; rfl)); intro g2 hg w2 hbox hb; have n0_ := Aside0.mk (below_step HB.out hb); have nk_ := Aside0.mk hbox; have ng_ := Aside0.mk (show w.heap.size ≤ g2 by rw [hg]; exact HB.out.size); clear HB; have HB := n0_; have BK := nk_; clear n0_ nk_ ng_ hb hbox hg; have x0 : w2.cell? ⟨g2, 0, none⟩ = some (.slice A0 ps.length c0) := (blk_cell BK.out 0).trans rfl; have x1 : w2.cell? ⟨g2, 1, none⟩ = some (.slice A1 ts.length c1) := (blk_cell BK.out 1).trans rfl)
          | (go_at_call 20; refine (squintlaw08_beyond.calls kb A0 c0 ps A1 c1 ts _ _ (Kd.C_below HP.out HB.out) HC0.out (Kd.C_below HT.out HB.out) HC1.out HK.out).mono ?_; rintro e w3 ⟨rfl, hb⟩; have n0_ := Aside0.mk (below_step HB.out hb); have nk0_ := Aside0.mk (blk_below BK.out hb); clear HB; have HB := n0_; clear n0_; clear BK; have BK := nk0_; clear nk0_; clear x0 x1 hb)
          | (go_at_call 9; refine (shown_true _ (HL.out.below HB.out)).mono ?_; rintro e w4 ⟨rfl, hb⟩; have n0_ := Aside0.mk (below_step HB.out hb); have nk0_ := Aside0.mk (blk_below BK.out hb); clear HB; have HB := n0_; clear n0_; clear BK; have BK := nk0_; clear nk0_; clear hb; have x0 : w4.cell? ⟨g2, 0, none⟩ = some (.slice A0 ps.length c0) := (blk_cell BK.out 0).trans rfl; have x1 : w4.cell? ⟨g2, 1, none⟩ = some (.slice A1 ts.length c1) := (blk_cell BK.out 1).trans rfl)
          | (go_at_call 22; clear PB; refine (print_any A0 c0 ps A1 c1 ts _ (Kd.C_below HP.out HB.out) (Kd.C_below HT.out HB.out) (HL.out.below HB.out) SM.out.1 SM.out.2.1 (by have := SM.out.2.2.1; omega)).mono ?_; rw [HPR.out]; rintro e w5 ⟨rfl, hb⟩; have n0_ := Aside0.mk (below_step HB.out hb); have nk0_ := Aside0.mk (blk_below BK.out hb); clear HB; have HB := n0_; clear n0_; clear BK; have BK := nk0_; clear nk0_; clear x0 x1 hb)
          | (go_at_call 26; clear PA; refine (parse_call (fullText ps ts) ps ts 0 0 0 _ (HL.out.below HB.out) (by have := SM.out.2.2.1; omega) HPT.out rfl).mono ?_; rintro e w6 ⟨A6, c6, A7, c7, rfl, hC6, hC7, hb⟩; have n0_ := Aside0.mk (below_step HB.out hb); have nk0_ := Aside0.mk (blk_below BK.out hb); clear HB; have HB := n0_; clear n0_; clear BK; have BK := nk0_; clear nk0_; have C6 := Aside0.mk hC6; have C7 := Aside0.mk hC7; clear hC6 hC7 hb)
          | ((with_reducible refine gate_dst (N := 7) rfl ?_); refine box_event ?hg (N := 7) ?hd (cs := #[.slice none 0 0, .slice none 0 0]) (t := 36) ?hr ?_; (case hd => rfl); (case hg => rfl); (case hr => first | (go_simp; done) | (go_simp; rfl)); intro g7 hg w7 hbox hb; have nk_ := Aside0.mk hbox; have NB := Aside0.mk hb; have NG := Aside0.mk (show w6.heap.size ≤ g7 by rw [hg]; exact Nat.le_refl _); have NK := nk_; clear nk_ hb hbox hg)
          | (refine wpList_store_row rfl 36 (.tmp 7) (.tmp 35) rfl g7 #[.slice A6 ps.length c6, .slice A7 ts.length c7] rfl rfl 36 _ NK.out (by kernel_rfl) rfl (by kernel_rfl) ?_; have n0_ : Aside0 ((w7.setRow g7 #[.slice A6 ps.length c6, .slice A7 ts.length c7]).heap[g7]? = some (.cells #[.slice A6 ps.length c6, .slice A7 ts.length c7] 36 (0, 0))) := ⟨setRow_heap _ _ _ _ _ _ NK.out⟩; have n1_ := Aside0.mk (below_setRow NB.out NG.out #[.slice A6 ps.length c6, .slice A7 ts.length c7]); generalize w7.setRow g7 #[.slice A6 ps.length c6, .slice A7 ts.length c7] = w8 at n0_ n1_ ⊢; clear NK NB NG; have NK := n0_; have hb := n1_.out; clear n0_ n1_; have n0_ := Aside0.mk (below_step HB.out hb); have nk0_ := Aside0.mk (blk_below BK.out hb); clear HB; have HB := n0_; clear n0_; clear BK; have BK := nk0_; clear nk0_; have m_ := Aside0.mk (Kd.C_below C6.out hb); clear C6; have C6 := m_; clear m_; have m_ := Aside0.mk (Kd.C_below C7.out hb); clear C7; have C7 := m_; clear m_; clear hb; have y0 : w8.cell? ⟨g7, 0, none⟩ = some (.slice A6 ps.length c6) := (blk_cell NK.out 0).trans rfl; have y1 : w8.cell? ⟨g7, 1, none⟩ = some (.slice A7 ts.length c7) := (blk_cell NK.out 1).trans rfl; have x0 : w8.cell? ⟨g2, 0, none⟩ = some (.slice A0 ps.length c0) := (blk_cell BK.out 0).trans rfl; have x1 : w8.cell? ⟨g2, 1, none⟩ = some (.slice A1 ts.length c1) := (blk_cell BK.out 1).trans rfl)
          | (go_at_call 28; refine (same_unit A6 A7 A0 A1 c6 c7 c0 c1 ps ts _ C6.out C7.out (Kd.C_below HP.out HB.out) (Kd.C_below HT.out HB.out) SM.out.2.2.2.1 SM.out.2.2.2.2).mono ?_; rintro e w9 ⟨rfl, hb⟩; have n0_ := Aside0.mk (below_step HB.out hb); clear HB; have HB := n0_; clear n0_ x0 x1 y0 y1 BK NK C6 C7 hb)
          | (go_at_call 26; refine (parse_call text [] [] n ni 80 _ (HL.out.below HB.out) HS.out HQ.out HNI.out).mono ?_; rintro e wa ⟨Aa, ca, Ab, cb, rfl, hCa, hCb, hb⟩; have n0_ := Aside0.mk (below_step HB.out hb); clear HB; have HB := n0_; clear n0_; have Ca := Aside0.mk hCa; have Cb := Aside0.mk hCb; clear hCa hCb hb)
          | ((with_reducible refine gate_dst (N := 10) rfl ?_); refine box_event ?hg (N := 10) ?hd (cs := #[.slice none 0 0, .slice none 0 0]) (t := 36) ?hr ?_; (case hd => rfl); (case hg => rfl); (case hr => first | (go_simp; done) | (go_simp; rfl)); intro ga hg wb hbox hb; have nk_ := Aside0.mk hbox; have NB := Aside0.mk hb; have NG := Aside0.mk (show wa.heap.size ≤ ga by rw [hg]; exact Nat.le_refl _); have NK := nk_; clear nk_ hb hbox hg)
          | (refine wpList_store_row rfl 36 (.tmp 10) (.tmp 53) rfl ga #[.slice Aa 0 ca, .slice Ab 0 cb] rfl rfl 36 _ NK.out (by kernel_rfl) rfl (by kernel_rfl) ?_; have n0_ : Aside0 ((wb.setRow ga #[.slice Aa 0 ca, .slice Ab 0 cb]).heap[ga]? = some (.cells #[.slice Aa 0 ca, .slice Ab 0 cb] 36 (0, 0))) := ⟨setRow_heap _ _ _ _ _ _ NK.out⟩; have n1_ := Aside0.mk (below_setRow NB.out NG.out #[.slice Aa 0 ca, .slice Ab 0 cb]); generalize wb.setRow ga #[.slice Aa 0 ca, .slice Ab 0 cb] = wc at n0_ n1_ ⊢; clear NK NB NG; have NK := n0_; have hb := n1_.out; clear n0_ n1_; have n0_ := Aside0.mk (below_step HB.out hb); clear HB; have HB := n0_; clear n0_; have m_ := Aside0.mk (Kd.C_below Ca.out hb); clear Ca; have Ca := m_; clear m_; have m_ := Aside0.mk (Kd.C_below Cb.out hb); clear Cb; have Cb := m_; clear m_; clear hb; have y0 : wc.cell? ⟨ga, 0, none⟩ = some (.slice Aa 0 ca) := (blk_cell NK.out 0).trans rfl; have y1 : wc.cell? ⟨ga, 1, none⟩ = some (.slice Ab 0 cb) := (blk_cell NK.out 1).trans rfl))
        go_returns
        exact ⟨rfl, HB.out⟩
    · have HPR := Aside0.mk (show printOf ps ts = (⟨#[]⟩, 80) by unfold printOf; rw [if_neg hcl])
      have PB := Aside0.mk True.intro
      clear hcl
      go_enter Tryd.func7, Tryd.ntmps7
      go_wp2_with (first
        | ((with_reducible refine gate_dst (N := 2) rfl ?_); refine box_event ?hg (N := 2) ?hd (cs := #[.slice A0 ps.length c0, .slice A1 ts.length c1]) (t := 36) ?hr ?_; (case hd => rfl); (case hg => rfl); (case hr => first | (go_simp; done) | (go_simp; rfl)); intro g2 hg w2 hbox hb; have n0_ := Aside0.mk (below_step HB.out hb); have nk_ := Aside0.mk hbox; have ng_ := Aside0.mk (show w.heap.size ≤ g2 by rw [hg]; exact HB.out.size); clear HB; have HB := n0_; have BK := nk_; clear n0_ nk_ ng_ hb hbox hg; have x0 : w2.cell? ⟨g2, 0, none⟩ = some (.slice A0 ps.length c0) := (blk_cell BK.out 0).trans rfl; have x1 : w2.cell? ⟨g2, 1, none⟩ = some (.slice A1 ts.length c1) := (blk_cell BK.out 1).trans rfl)
        | (go_at_call 20; refine (squintlaw08_beyond.calls kb A0 c0 ps A1 c1 ts _ _ (Kd.C_below HP.out HB.out) HC0.out (Kd.C_below HT.out HB.out) HC1.out HK.out).mono ?_; rintro e w3 ⟨rfl, hb⟩; have n0_ := Aside0.mk (below_step HB.out hb); have nk0_ := Aside0.mk (blk_below BK.out hb); clear HB; have HB := n0_; clear n0_; clear BK; have BK := nk0_; clear nk0_; clear x0 x1 hb)
        | (go_at_call 9; refine (shown_true _ (HL.out.below HB.out)).mono ?_; rintro e w4 ⟨rfl, hb⟩; have n0_ := Aside0.mk (below_step HB.out hb); have nk0_ := Aside0.mk (blk_below BK.out hb); clear HB; have HB := n0_; clear n0_; clear BK; have BK := nk0_; clear nk0_; clear hb; have x0 : w4.cell? ⟨g2, 0, none⟩ = some (.slice A0 ps.length c0) := (blk_cell BK.out 0).trans rfl; have x1 : w4.cell? ⟨g2, 1, none⟩ = some (.slice A1 ts.length c1) := (blk_cell BK.out 1).trans rfl)
        | (go_at_call 22; clear PB; refine (print_any A0 c0 ps A1 c1 ts _ (Kd.C_below HP.out HB.out) (Kd.C_below HT.out HB.out) (HL.out.below HB.out) SM.out.1 SM.out.2.1 (by have := SM.out.2.2.1; omega)).mono ?_; rw [HPR.out]; rintro e w5 ⟨rfl, hb⟩; have n0_ := Aside0.mk (below_step HB.out hb); have nk0_ := Aside0.mk (blk_below BK.out hb); clear HB; have HB := n0_; clear n0_; clear BK; have BK := nk0_; clear nk0_; clear x0 x1 hb))
      go_returns
      exact ⟨rfl, HB.out⟩
  · rw [decide_eq_true hbig] at hkb
    have HK := Aside0.mk hkb
    clear hkb hbig
    go_enter Tryd.func7, Tryd.ntmps7
    go_wp2_with (first
      | ((with_reducible refine gate_dst (N := 2) rfl ?_); refine box_event ?hg (N := 2) ?hd (cs := #[.slice A0 ps.length c0, .slice A1 ts.length c1]) (t := 36) ?hr ?_; (case hd => rfl); (case hg => rfl); (case hr => first | (go_simp; done) | (go_simp; rfl)); intro g2 hg w2 hbox hb; have n0_ := Aside0.mk (below_step HB.out hb); have nk_ := Aside0.mk hbox; have ng_ := Aside0.mk (show w.heap.size ≤ g2 by rw [hg]; exact HB.out.size); clear HB; have HB := n0_; have BK := nk_; clear n0_ nk_ ng_ hb hbox hg; have x0 : w2.cell? ⟨g2, 0, none⟩ = some (.slice A0 ps.length c0) := (blk_cell BK.out 0).trans rfl; have x1 : w2.cell? ⟨g2, 1, none⟩ = some (.slice A1 ts.length c1) := (blk_cell BK.out 1).trans rfl)
      | (go_at_call 20; refine (squintlaw08_beyond.calls kb A0 c0 ps A1 c1 ts _ _ (Kd.C_below HP.out HB.out) HC0.out (Kd.C_below HT.out HB.out) HC1.out HK.out).mono ?_; rintro e w3 ⟨rfl, hb⟩; have n0_ := Aside0.mk (below_step HB.out hb); have nk0_ := Aside0.mk (blk_below BK.out hb); clear HB; have HB := n0_; clear n0_; clear BK; have BK := nk0_; clear nk0_; clear x0 x1 hb))
    go_returns
    exact ⟨rfl, HB.out⟩
end Go.Proofs.YtfkfgjmhcfagkaaDoor.Given
end
section
namespace Go.Proofs.YtfkfgjmhcfagkaaDoor.Opens
open Go.RowKit Go.Proofs.YtfkfgjmhcfagkaaDoorW.PrintWords
def Opens {α : Type} (P : Program) (W : World) (t : TypeId) (d : Kd α) (wf : α → Prop) : Prop :=
  ∀ (H : Type) (enc : TypeId × Value → H) (base : Nat) (sp : Nat → Bool) (held : Bool) (fuel : Nat) (cs : List Value) (x : DataW H × List MemPlace),
    DataW.trod enc P W base sp held fuel t cs = some x → (∀ k, k ∈ x.1.weights P t → k ≤ reachBytes) → ∃ a, d.K W a cs ∧ wf a
variable {P : Program} {W : World} {t e : TypeId}
theorem opens_int {k : IntKind} (ht : P.underlying t = some (.int k)) : Opens P W t (Kd.int k) (fun n => (Lit.int k n).wf = true) := by
  intro H enc base sp held fuel cs x h hw
  obtain ⟨n, rfl, rfl, hn⟩ := DataW.trod_int ht h
  exact ⟨n, rfl, hn⟩
theorem opens_bool (ht : P.underlying t = some .bool) : Opens P W t Kd.bool (fun _ => True) := by
  intro H enc base sp held fuel cs x h hw
  obtain ⟨b, rfl, rfl⟩ := DataW.trod_bool ht h
  exact ⟨b, rfl, trivial⟩
theorem mem_weightsAll {H : Type} {P : Program} {e : TypeId} {d : DataW H} {k : Nat} : ∀ {l : List (DataW H)}, d ∈ l → k ∈ d.weights P e → k ∈ DataW.weightsAll P e l
  | [], h, _ => by cases h
  | a :: l, h, hk => by
    unfold DataW.weightsAll
    rcases List.mem_cons.1 h with rfl | h
    · exact List.mem_append_left _ hk
    · exact List.mem_append_right _ (mem_weightsAll h hk)
theorem exists_list {α : Type} {p : Nat → α → Prop} : ∀ (n : Nat), (∀ i, i < n → ∃ a, p i a) → ∃ l : List α, l.length = n ∧ ∀ i a, l[i]? = some a → p i a
  | 0, _ => ⟨[], rfl, fun i a h => by simp at h⟩
  | n + 1, h => by
    obtain ⟨l, hl, hp⟩ := exists_list n (fun i hi => h i (Nat.lt_succ_of_lt hi))
    obtain ⟨a, ha⟩ := h n (Nat.lt_succ_self n)
    refine ⟨l ++ [a], by simp [hl], fun i b hb => ?_⟩
    by_cases hi : i < l.length
    · rw [List.getElem?_append_left hi] at hb
      exact hp i b hb
    · rw [List.getElem?_append_right (by omega)] at hb
      have hi2 : i - l.length = 0 := by
        cases hq : i - l.length with
        | zero => rfl
        | succ m => rw [hq] at hb; simp at hb
      rw [hi2] at hb
      injection hb with hb
      subst hb
      have : i = n := by omega
      subst this
      exact ha
theorem opens_slice {α : Type} {d : Kd α} {wf : α → Prop} {bytes : Nat} (ht : P.underlying t = some (.slice e)) (hc : P.cellsOf e = d.sz) (hb : P.bytesOf e = bytes) (he : Opens P W e d wf) :
    Opens P W t (Kd.slice e d) (fun xs => (∀ x ∈ xs, wf x) ∧ xs.length * bytes ≤ 140737488351232) := by
  intro H enc base sp held fuel cs x h hw
  rcases Deep.open_slice ht h with ⟨rfl, rfl⟩ | ⟨a, len, cap, m, n, D, Pl, rfl, hba, hl, hm, hmm, rfl, hel⟩
  · exact ⟨[], ⟨none, 0, rfl, Nat.le_refl _, Kd.C_nil _ _⟩, fun x hx => (by cases hx), by simp⟩
  have hlm : len ≤ m := by rw [hmm]; split <;> omega
  have hW : ∀ i, i < len → ∀ k, k ∈ (D i).weights P e → k ≤ reachBytes := by
    intro i hi k hk
    refine hw k ?_
    unfold DataW.weights
    rw [ht]
    refine List.mem_cons_of_mem _ (List.mem_append_left _ ?_)
    exact mem_weightsAll (List.mem_map.2 ⟨i, List.mem_range.2 hi, rfl⟩) hk
  obtain ⟨xs, hxl, hxs⟩ := exists_list (p := fun i (a' : α) => wf a' ∧ ∃ cs', W.cells? base (a.add (i * P.cellsOf e)) (P.cellsOf e) = some cs' ∧ d.K W a' cs') len (fun i hi => by
    obtain ⟨cs', h1, h2⟩ := hel i (by omega)
    obtain ⟨a', hk, hwf⟩ := he H enc base sp held n cs' _ h2 (hW i hi)
    exact ⟨a', hwf, cs', h1, hk⟩)
  refine ⟨xs, ⟨some a, cap, by rw [hxl], by rw [hxl]; exact hl, ?_⟩, fun x hx => ?_, ?_⟩
  · refine ⟨rfl, ?_, fun _ => ⟨a, rfl, fun j p hj => ?_⟩⟩
    · rw [hxl]
      exact Nat.le_trans hl (Nat.le_trans hm (by decide))
    · obtain ⟨_, cs', h1, hk⟩ := hxs j p hj
      refine ⟨cs', d.K_len hk, hk, fun i u hu => ?_⟩
      obtain ⟨_, hlen, hcell⟩ := World.cells?_some h1
      rw [hc] at hcell hlen
      have hi : i < cs'.length := (List.getElem?_eq_some_iff.1 hu).1
      have := hcell i (by omega)
      rw [Deep.add_add] at this
      rw [this, hu]
  · obtain ⟨i, hi⟩ := List.mem_iff_getElem?.1 hx
    exact (hxs i x hi).1
  · have := hw ((((List.range len).map D).length + ((List.range (m - len)).map fun j => D (len + j)).length) * P.bytesOf e) (by
      unfold DataW.weights
      rw [ht]
      exact List.mem_cons_self)
    simp only [List.length_map, List.length_range] at this
    rw [hb] at this
    rw [hxl]
    exact Nat.le_trans (Nat.mul_le_mul_right _ (by omega)) this
end Go.Proofs.YtfkfgjmhcfagkaaDoor.Opens
end
section
namespace Go.Proofs.YtfkfgjmhcfagkaaDoor.Given
open Go.RowKit Go.Proofs.YtfkfgjmhcfagkaaDoorW.PrintWords Go.Proofs.YtfkfgjmhcfagkaaDoor.Print
set_option linter.unusedVariables false
set_option linter.unusedSimpArgs false
theorem len3 {α : Type} {l : List α} (h : l.length = 3) : ∃ a b c, l = [a, b, c] := by
  match l, h with
  | [a, b, c], _ => exact ⟨a, b, c, rfl⟩
theorem len4 {α : Type} {l : List α} (h : l.length = 4) : ∃ a b c d, l = [a, b, c, d] := by
  match l, h with
  | [a, b, c, d], _ => exact ⟨a, b, c, d, rfl⟩
theorem len5 {α : Type} {l : List α} (h : l.length = 5) : ∃ a b c d e, l = [a, b, c, d, e] := by
  match l, h with
  | [a, b, c, d, e], _ => exact ⟨a, b, c, d, e, rfl⟩
def wfN (n : Int) : Prop := (Lit.int .i64 n).wf = true
def wfL (l : List Int) : Prop := (∀ n ∈ l, wfN n) ∧ l.length * 8 ≤ 140737488351232
theorem opens3 (W : World) : Opens.Opens Tryd.prog W 3 (Kd.int .i64) wfN := Opens.opens_int Tryd.underlying3
theorem opens4 (W : World) : Opens.Opens Tryd.prog W 4 Kd.bool (fun _ => True) := Opens.opens_bool Tryd.underlying4
theorem opens26 (W : World) : Opens.Opens Tryd.prog W 26 (Kd.slice 3 (Kd.int .i64)) wfL := Opens.opens_slice Tryd.underlying26 (by kernel_rfl) (by kernel_rfl) (opens3 W)
theorem opens28 (W : World) : Opens.Opens Tryd.prog W 28 k28 (fun x => (wfN) x.f0 ∧ (wfN) x.f1 ∧ (wfN) x.f2 ∧ (wfL) x.f3) := by
  intro H enc base sp held fuel cs x h hw
  obtain ⟨xs, n, _, rfl, hl, hlen, hf⟩ := DataW.trod_struct Tryd.underlying28 h
  rw [show Tryd.prog.cellsOf 28 = 4 by kernel_rfl] at hl
  obtain ⟨c0, c1, c2, c3, rfl⟩ := len4 hl
  obtain ⟨y0, y1, y2, y3, rfl⟩ := len4 (show xs.length = 4 from hlen)
  have h0 : DataW.trod enc Tryd.prog W base sp held n 3 [c0] = some y0 := by
        have := hf 0 _ rfl
        simpa [show Tryd.prog.cellsOf 3 = 1 by kernel_rfl] using this
  have h1 : DataW.trod enc Tryd.prog W base sp held n 3 [c1] = some y1 := by
        have := hf 1 _ rfl
        simpa [show Tryd.prog.cellsOf 3 = 1 by kernel_rfl] using this
  have h2 : DataW.trod enc Tryd.prog W base sp held n 3 [c2] = some y2 := by
        have := hf 2 _ rfl
        simpa [show Tryd.prog.cellsOf 3 = 1 by kernel_rfl] using this
  have h3 : DataW.trod enc Tryd.prog W base sp held n 26 [c3] = some y3 := by
        have := hf 3 _ rfl
        simpa [show Tryd.prog.cellsOf 26 = 1 by kernel_rfl] using this
  have hw' : ∀ k, k ∈ y0.1.weights Tryd.prog 3 ∨ k ∈ y1.1.weights Tryd.prog 3 ∨ k ∈ y2.1.weights Tryd.prog 3 ∨ k ∈ y3.1.weights Tryd.prog 26 → k ≤ reachBytes := by
        intro k hk
        refine hw k ?_
        unfold DataW.weights
        rw [Tryd.underlying28]
        simp only [List.map_cons, List.map_nil, DataW.weightsEach, List.mem_append, List.not_mem_nil, or_false]
        exact hk
  obtain ⟨a0, k0, w0⟩ := opens3 W H enc base sp held n _ _ h0 (fun k hk => hw' k (Or.inl hk))
  obtain ⟨a1, k1, w1⟩ := opens3 W H enc base sp held n _ _ h1 (fun k hk => hw' k (Or.inr (Or.inl hk)))
  obtain ⟨a2, k2, w2⟩ := opens3 W H enc base sp held n _ _ h2 (fun k hk => hw' k (Or.inr (Or.inr (Or.inl hk))))
  obtain ⟨a3, k3, w3⟩ := opens26 W H enc base sp held n _ _ h3 (fun k hk => hw' k (Or.inr (Or.inr (Or.inr (hk)))))
  refine ⟨⟨a0, a1, a2, a3⟩, ?_, w0, w1, w2, w3⟩
  exact ⟨[c0], [c1, c2, c3], rfl, k0, ⟨[c1], [c2, c3], rfl, k1, ⟨[c2], [c3], rfl, k2, k3⟩⟩⟩
def wfI0 (x : S28) : Prop := wfN x.f0 ∧ wfN x.f1 ∧ wfN x.f2 ∧ wfL x.f3
def wfC (l : List S28) : Prop := (∀ x ∈ l, wfI0 x) ∧ l.length * 48 ≤ 140737488351232
theorem opens55 (W : World) : Opens.Opens Tryd.prog W 55 (Kd.slice 28 k28) wfC := Opens.opens_slice Tryd.underlying55 (by kernel_rfl) (by kernel_rfl) (opens28 W)
theorem opens57 (W : World) : Opens.Opens Tryd.prog W 57 k57 (fun x => (wfN) x.f0 ∧ (wfN) x.f1 ∧ (wfN) x.f2 ∧ (fun _ => True) x.f3 ∧ (wfC) x.f4) := by
  intro H enc base sp held fuel cs x h hw
  obtain ⟨xs, n, _, rfl, hl, hlen, hf⟩ := DataW.trod_struct Tryd.underlying57 h
  rw [show Tryd.prog.cellsOf 57 = 5 by kernel_rfl] at hl
  obtain ⟨c0, c1, c2, c3, c4, rfl⟩ := len5 hl
  obtain ⟨y0, y1, y2, y3, y4, rfl⟩ := len5 (show xs.length = 5 from hlen)
  have h0 : DataW.trod enc Tryd.prog W base sp held n 3 [c0] = some y0 := by
        have := hf 0 _ rfl
        simpa [show Tryd.prog.cellsOf 3 = 1 by kernel_rfl] using this
  have h1 : DataW.trod enc Tryd.prog W base sp held n 3 [c1] = some y1 := by
        have := hf 1 _ rfl
        simpa [show Tryd.prog.cellsOf 3 = 1 by kernel_rfl] using this
  have h2 : DataW.trod enc Tryd.prog W base sp held n 3 [c2] = some y2 := by
        have := hf 2 _ rfl
        simpa [show Tryd.prog.cellsOf 3 = 1 by kernel_rfl] using this
  have h3 : DataW.trod enc Tryd.prog W base sp held n 4 [c3] = some y3 := by
        have := hf 3 _ rfl
        simpa [show Tryd.prog.cellsOf 4 = 1 by kernel_rfl] using this
  have h4 : DataW.trod enc Tryd.prog W base sp held n 55 [c4] = some y4 := by
        have := hf 4 _ rfl
        simpa [show Tryd.prog.cellsOf 55 = 1 by kernel_rfl] using this
  have hw' : ∀ k, k ∈ y0.1.weights Tryd.prog 3 ∨ k ∈ y1.1.weights Tryd.prog 3 ∨ k ∈ y2.1.weights Tryd.prog 3 ∨ k ∈ y3.1.weights Tryd.prog 4 ∨ k ∈ y4.1.weights Tryd.prog 55 → k ≤ reachBytes := by
        intro k hk
        refine hw k ?_
        unfold DataW.weights
        rw [Tryd.underlying57]
        simp only [List.map_cons, List.map_nil, DataW.weightsEach, List.mem_append, List.not_mem_nil, or_false]
        exact hk
  obtain ⟨a0, k0, w0⟩ := opens3 W H enc base sp held n _ _ h0 (fun k hk => hw' k (Or.inl hk))
  obtain ⟨a1, k1, w1⟩ := opens3 W H enc base sp held n _ _ h1 (fun k hk => hw' k (Or.inr (Or.inl hk)))
  obtain ⟨a2, k2, w2⟩ := opens3 W H enc base sp held n _ _ h2 (fun k hk => hw' k (Or.inr (Or.inr (Or.inl hk))))
  obtain ⟨a3, k3, w3⟩ := opens4 W H enc base sp held n _ _ h3 (fun k hk => hw' k (Or.inr (Or.inr (Or.inr (Or.inl hk)))))
  obtain ⟨a4, k4, w4⟩ := opens55 W H enc base sp held n _ _ h4 (fun k hk => hw' k (Or.inr (Or.inr (Or.inr (Or.inr (hk))))))
  refine ⟨⟨a0, a1, a2, a3, a4⟩, ?_, w0, w1, w2, w3, w4⟩
  exact ⟨[c0], [c1, c2, c3, c4], rfl, k0, ⟨[c1], [c2, c3, c4], rfl, k1, ⟨[c2], [c3, c4], rfl, k2, ⟨[c3], [c4], rfl, k3, k4⟩⟩⟩⟩
def wfP0 (x : S57) : Prop := wfN x.f0 ∧ wfN x.f1 ∧ wfN x.f2 ∧ True ∧ wfC x.f4
def wfPs (l : List S57) : Prop := (∀ x ∈ l, wfP0 x) ∧ l.length * 56 ≤ 140737488351232
theorem opens33 (W : World) : Opens.Opens Tryd.prog W 33 (Kd.slice 57 k57) wfPs := Opens.opens_slice Tryd.underlying33 (by kernel_rfl) (by kernel_rfl) (opens57 W)
theorem opens54 (W : World) : Opens.Opens Tryd.prog W 54 k54 (fun x => (wfN) x.f0 ∧ (wfL) x.f1 ∧ (fun _ => True) x.f2) := by
  intro H enc base sp held fuel cs x h hw
  obtain ⟨xs, n, _, rfl, hl, hlen, hf⟩ := DataW.trod_struct Tryd.underlying54 h
  rw [show Tryd.prog.cellsOf 54 = 3 by kernel_rfl] at hl
  obtain ⟨c0, c1, c2, rfl⟩ := len3 hl
  obtain ⟨y0, y1, y2, rfl⟩ := len3 (show xs.length = 3 from hlen)
  have h0 : DataW.trod enc Tryd.prog W base sp held n 3 [c0] = some y0 := by
        have := hf 0 _ rfl
        simpa [show Tryd.prog.cellsOf 3 = 1 by kernel_rfl] using this
  have h1 : DataW.trod enc Tryd.prog W base sp held n 26 [c1] = some y1 := by
        have := hf 1 _ rfl
        simpa [show Tryd.prog.cellsOf 26 = 1 by kernel_rfl] using this
  have h2 : DataW.trod enc Tryd.prog W base sp held n 4 [c2] = some y2 := by
        have := hf 2 _ rfl
        simpa [show Tryd.prog.cellsOf 4 = 1 by kernel_rfl] using this
  have hw' : ∀ k, k ∈ y0.1.weights Tryd.prog 3 ∨ k ∈ y1.1.weights Tryd.prog 26 ∨ k ∈ y2.1.weights Tryd.prog 4 → k ≤ reachBytes := by
        intro k hk
        refine hw k ?_
        unfold DataW.weights
        rw [Tryd.underlying54]
        simp only [List.map_cons, List.map_nil, DataW.weightsEach, List.mem_append, List.not_mem_nil, or_false]
        exact hk
  obtain ⟨a0, k0, w0⟩ := opens3 W H enc base sp held n _ _ h0 (fun k hk => hw' k (Or.inl hk))
  obtain ⟨a1, k1, w1⟩ := opens26 W H enc base sp held n _ _ h1 (fun k hk => hw' k (Or.inr (Or.inl hk)))
  obtain ⟨a2, k2, w2⟩ := opens4 W H enc base sp held n _ _ h2 (fun k hk => hw' k (Or.inr (Or.inr (hk))))
  refine ⟨⟨a0, a1, a2⟩, ?_, w0, w1, w2⟩
  exact ⟨[c0], [c1, c2], rfl, k0, ⟨[c1], [c2], rfl, k1, k2⟩⟩
def wfT0 (x : S54) : Prop := wfN x.f0 ∧ wfL x.f1 ∧ True
def wfTs (l : List S54) : Prop := (∀ x ∈ l, wfT0 x) ∧ l.length * 40 ≤ 140737488351232
theorem opens34 (W : World) : Opens.Opens Tryd.prog W 34 (Kd.slice 54 k54) wfTs := Opens.opens_slice Tryd.underlying34 (by kernel_rfl) (by kernel_rfl) (opens54 W)
end Go.Proofs.YtfkfgjmhcfagkaaDoor.Given
end
section
namespace Go.Proofs.YtfkfgjmhcfagkaaDoor.Given
open Go.RowKit Go.Proofs.YtfkfgjmhcfagkaaDoorW.PrintWords Go.Proofs.YtfkfgjmhcfagkaaDoor.Print
set_option linter.unusedVariables false
set_option linter.unusedSimpArgs false
theorem len2 {α : Type} {l : List α} (h : l.length = 2) : ∃ a b, l = [a, b] := by
  match l, h with
  | [a, b], _ => exact ⟨a, b, rfl⟩
def k36 : Kd (List S57 × List S54) := Kd.pair (Kd.slice 57 k57) (Kd.slice 54 k54)
theorem opens36 (W : World) : Opens.Opens Tryd.prog W 36 k36 (fun x => (wfPs) x.1 ∧ (wfTs) x.2) := by
  intro H enc base sp held fuel cs x h hw
  obtain ⟨xs, n, _, rfl, hl, hlen, hf⟩ := DataW.trod_struct Tryd.underlying36 h
  rw [show Tryd.prog.cellsOf 36 = 2 by kernel_rfl] at hl
  obtain ⟨c0, c1, rfl⟩ := len2 hl
  obtain ⟨y0, y1, rfl⟩ := len2 (show xs.length = 2 from hlen)
  have h0 : DataW.trod enc Tryd.prog W base sp held n 33 [c0] = some y0 := by
        have := hf 0 _ rfl
        simpa [show Tryd.prog.cellsOf 33 = 1 by kernel_rfl] using this
  have h1 : DataW.trod enc Tryd.prog W base sp held n 34 [c1] = some y1 := by
        have := hf 1 _ rfl
        simpa [show Tryd.prog.cellsOf 34 = 1 by kernel_rfl] using this
  have hw' : ∀ k, k ∈ y0.1.weights Tryd.prog 33 ∨ k ∈ y1.1.weights Tryd.prog 34 → k ≤ reachBytes := by
        intro k hk
        refine hw k ?_
        unfold DataW.weights
        rw [Tryd.underlying36]
        simp only [List.map_cons, List.map_nil, DataW.weightsEach, List.mem_append, List.not_mem_nil, or_false]
        exact hk
  obtain ⟨a0, k0, w0⟩ := opens33 W H enc base sp held n _ _ h0 (fun k hk => hw' k (Or.inl hk))
  obtain ⟨a1, k1, w1⟩ := opens34 W H enc base sp held n _ _ h1 (fun k hk => hw' k (Or.inr (hk)))
  refine ⟨⟨a0, a1⟩, ?_, w0, w1⟩
  exact ⟨[c0], [c1], rfl, k0, k1⟩
theorem k36_open {w : World} {x : List S57 × List S54} {cs : List Value} (h : k36.K w x cs) : ∃ A0 c0 A1 c1, cs = [.slice A0 x.1.length c0, .slice A1 x.2.length c1] ∧ x.1.length ≤ c0 ∧ k57.C w A0 x.1.length x.1 ∧ x.2.length ≤ c1 ∧ k54.C w A1 x.2.length x.2 := by
  obtain ⟨_, _, rfl, ⟨A0, c0, rfl, l0, g0⟩, ⟨A1, c1, rfl, l1, g1⟩⟩ := h
  exact ⟨A0, c0, A1, c1, rfl, l0, g0, l1, g1⟩
theorem wfN_rng {n : Int} (h : wfN n) : Rng n := rng_wf.mp h
theorem progs_rng {ps : List S57} (h : wfPs ps) : (∀ p ∈ ps, rngP p) ∧ ps.length ≤ 4611686018427387904 ∧ ∀ p ∈ ps, p.f4.length ≤ 4611686018427387904 := by
  refine ⟨fun p hp => ?_, by have := h.2; omega, fun p hp => by have := (h.1 p hp).2.2.2.2.2; omega⟩
  obtain ⟨a, b, c, _, d⟩ := h.1 p hp
  exact ⟨wfN_rng a, wfN_rng b, wfN_rng c, fun i hi => ⟨wfN_rng (d.1 i hi).2.1, wfN_rng (d.1 i hi).2.2.1, fun n hn => wfN_rng ((d.1 i hi).2.2.2.1 n hn)⟩⟩
theorem types_rng {ts : List S54} (h : wfTs ts) : (∀ t ∈ ts, goodT t) ∧ ts.length ≤ 4611686018427387904 := by
  refine ⟨fun t ht => ?_, by have := h.2; omega⟩
  obtain ⟨a, b, _⟩ := h.1 t ht
  exact ⟨wfN_rng a, fun n hn => wfN_rng (b.1 n hn)⟩
end Go.Proofs.YtfkfgjmhcfagkaaDoor.Given
end
section
namespace Go.Proofs.YtfkfgjmhcfagkaaDoor.Given
open Go.RowKit Go.Proofs.YtfkfgjmhcfagkaaDoorW.PrintWords
set_option linter.unusedVariables false
abbrev laidAll : List (String × DataW Unit) := [("math/bits.deBruijn32tab", Rows.laid_math_bits_deBruijn32tab), ("math/bits.deBruijn64tab", Rows.laid_math_bits_deBruijn64tab), ("internal/strconv.uint64pow10", Rows.laid_internal_strconv_uint64pow10), ("unicode/utf8.acceptRanges", Rows.laid_unicode_utf8_acceptRanges), ("strconv.ErrRange", Rows.laid_strconv_ErrRange), ("strconv.ErrSyntax", Rows.laid_strconv_ErrSyntax), ("unicode/utf8.first", Rows.laid_unicode_utf8_first)]
theorem gPow : Tryd.prog.globalNamed "internal/strconv.uint64pow10" = some 1 := by kernel_rfl
theorem gPowT : (Tryd.prog.globals[1]?).map (·.type) = some 129 := by kernel_rfl
theorem gES : Tryd.prog.globalNamed "strconv.ErrSyntax" = some 2 := by kernel_rfl
theorem gEST : (Tryd.prog.globals[2]?).map (·.type) = some 71 := by kernel_rfl
theorem gER : Tryd.prog.globalNamed "strconv.ErrRange" = some 3 := by kernel_rfl
theorem gERT : (Tryd.prog.globals[3]?).map (·.type) = some 71 := by kernel_rfl
theorem cellsPow : Tryd.prog.cellsOf 129 = 20 := by kernel_rfl
theorem pow_eq : (Rows.laid_internal_strconv_uint64pow10 : DataW Unit) = Lib.tabData .u64 Lib.pow10Tab := by kernel_rfl
noncomputable def laidWorld (os : Os) : World :=
  let N := (World.settled Tryd.prog os).heap.size
  let w0 := World.holding Tryd.prog os ⟨#[.cells #[.string ⟨#[118, 97, 108, 117, 101, 32, 111, 117, 116, 32, 111, 102, 32, 114, 97, 110, 103, 101]⟩] 145, .cells #[.string ⟨#[105, 110, 118, 97, 108, 105, 100, 32, 115, 121, 110, 116, 97, 120]⟩] 145], #[], []⟩
  let put (h : Array Obj) (g : Nat) (cs : Array Value) : Array Obj := h.modify g fun
    | .cells _ t frozen => .cells cs t frozen
    | o => o
  let h0 := put (put w0.heap 2 #[.iface 143 (.pointer (some ⟨N + 1, 0, none⟩))]) 3 #[.iface 143 (.pointer (some ⟨N, 0, none⟩))]
  let h1 := put (put (put h0 1 #[.int .u64 1, .int .u64 10, .int .u64 100, .int .u64 1000, .int .u64 10000, .int .u64 100000, .int .u64 1000000, .int .u64 10000000, .int .u64 100000000, .int .u64 1000000000, .int .u64 10000000000, .int .u64 100000000000, .int .u64 1000000000000, .int .u64 10000000000000, .int .u64 100000000000000, .int .u64 1000000000000000, .int .u64 10000000000000000, .int .u64 100000000000000000, .int .u64 1000000000000000000, .int .u64 10000000000000000000]) 4 #[.int .u8 0, .int .u8 1, .int .u8 28, .int .u8 2, .int .u8 29, .int .u8 14, .int .u8 24, .int .u8 3, .int .u8 30, .int .u8 22, .int .u8 20, .int .u8 15, .int .u8 25, .int .u8 17, .int .u8 4, .int .u8 8, .int .u8 31, .int .u8 27, .int .u8 13, .int .u8 23, .int .u8 21, .int .u8 19, .int .u8 16, .int .u8 7, .int .u8 26, .int .u8 12, .int .u8 18, .int .u8 6, .int .u8 11, .int .u8 5, .int .u8 10, .int .u8 9]) 5 #[.int .u8 0, .int .u8 1, .int .u8 56, .int .u8 2, .int .u8 57, .int .u8 49, .int .u8 28, .int .u8 3, .int .u8 61, .int .u8 58, .int .u8 42, .int .u8 50, .int .u8 38, .int .u8 29, .int .u8 17, .int .u8 4, .int .u8 62, .int .u8 47, .int .u8 59, .int .u8 36, .int .u8 45, .int .u8 43, .int .u8 51, .int .u8 22, .int .u8 53, .int .u8 39, .int .u8 33, .int .u8 30, .int .u8 24, .int .u8 18, .int .u8 12, .int .u8 5, .int .u8 63, .int .u8 55, .int .u8 48, .int .u8 27, .int .u8 60, .int .u8 41, .int .u8 37, .int .u8 16, .int .u8 46, .int .u8 35, .int .u8 44, .int .u8 21, .int .u8 52, .int .u8 32, .int .u8 23, .int .u8 11, .int .u8 54, .int .u8 26, .int .u8 40, .int .u8 15, .int .u8 34, .int .u8 20, .int .u8 31, .int .u8 10, .int .u8 25, .int .u8 14, .int .u8 19, .int .u8 9, .int .u8 13, .int .u8 8, .int .u8 7, .int .u8 6]
  let h2 := put (put h1 6 #[.int .u8 240, .int .u8 240, .int .u8 240, .int .u8 240, .int .u8 240, .int .u8 240, .int .u8 240, .int .u8 240, .int .u8 240, .int .u8 240, .int .u8 240, .int .u8 240, .int .u8 240, .int .u8 240, .int .u8 240, .int .u8 240, .int .u8 240, .int .u8 240, .int .u8 240, .int .u8 240, .int .u8 240, .int .u8 240, .int .u8 240, .int .u8 240, .int .u8 240, .int .u8 240, .int .u8 240, .int .u8 240, .int .u8 240, .int .u8 240, .int .u8 240, .int .u8 240, .int .u8 240, .int .u8 240, .int .u8 240, .int .u8 240, .int .u8 240, .int .u8 240, .int .u8 240, .int .u8 240, .int .u8 240, .int .u8 240, .int .u8 240, .int .u8 240, .int .u8 240, .int .u8 240, .int .u8 240, .int .u8 240, .int .u8 240, .int .u8 240, .int .u8 240, .int .u8 240, .int .u8 240, .int .u8 240, .int .u8 240, .int .u8 240, .int .u8 240, .int .u8 240, .int .u8 240, .int .u8 240, .int .u8 240, .int .u8 240, .int .u8 240, .int .u8 240, .int .u8 240, .int .u8 240, .int .u8 240, .int .u8 240, .int .u8 240, .int .u8 240, .int .u8 240, .int .u8 240, .int .u8 240, .int .u8 240, .int .u8 240, .int .u8 240, .int .u8 240, .int .u8 240, .int .u8 240, .int .u8 240, .int .u8 240, .int .u8 240, .int .u8 240, .int .u8 240, .int .u8 240, .int .u8 240, .int .u8 240, .int .u8 240, .int .u8 240, .int .u8 240, .int .u8 240, .int .u8 240, .int .u8 240, .int .u8 240, .int .u8 240, .int .u8 240, .int .u8 240, .int .u8 240, .int .u8 240, .int .u8 240, .int .u8 240, .int .u8 240, .int .u8 240, .int .u8 240, .int .u8 240, .int .u8 240, .int .u8 240, .int .u8 240, .int .u8 240, .int .u8 240, .int .u8 240, .int .u8 240, .int .u8 240, .int .u8 240, .int .u8 240, .int .u8 240, .int .u8 240, .int .u8 240, .int .u8 240, .int .u8 240, .int .u8 240, .int .u8 240, .int .u8 240, .int .u8 240, .int .u8 240, .int .u8 240, .int .u8 240, .int .u8 240, .int .u8 241, .int .u8 241, .int .u8 241, .int .u8 241, .int .u8 241, .int .u8 241, .int .u8 241, .int .u8 241, .int .u8 241, .int .u8 241, .int .u8 241, .int .u8 241, .int .u8 241, .int .u8 241, .int .u8 241, .int .u8 241, .int .u8 241, .int .u8 241, .int .u8 241, .int .u8 241, .int .u8 241, .int .u8 241, .int .u8 241, .int .u8 241, .int .u8 241, .int .u8 241, .int .u8 241, .int .u8 241, .int .u8 241, .int .u8 241, .int .u8 241, .int .u8 241, .int .u8 241, .int .u8 241, .int .u8 241, .int .u8 241, .int .u8 241, .int .u8 241, .int .u8 241, .int .u8 241, .int .u8 241, .int .u8 241, .int .u8 241, .int .u8 241, .int .u8 241, .int .u8 241, .int .u8 241, .int .u8 241, .int .u8 241, .int .u8 241, .int .u8 241, .int .u8 241, .int .u8 241, .int .u8 241, .int .u8 241, .int .u8 241, .int .u8 241, .int .u8 241, .int .u8 241, .int .u8 241, .int .u8 241, .int .u8 241, .int .u8 241, .int .u8 241, .int .u8 241, .int .u8 241, .int .u8 2, .int .u8 2, .int .u8 2, .int .u8 2, .int .u8 2, .int .u8 2, .int .u8 2, .int .u8 2, .int .u8 2, .int .u8 2, .int .u8 2, .int .u8 2, .int .u8 2, .int .u8 2, .int .u8 2, .int .u8 2, .int .u8 2, .int .u8 2, .int .u8 2, .int .u8 2, .int .u8 2, .int .u8 2, .int .u8 2, .int .u8 2, .int .u8 2, .int .u8 2, .int .u8 2, .int .u8 2, .int .u8 2, .int .u8 2, .int .u8 19, .int .u8 3, .int .u8 3, .int .u8 3, .int .u8 3, .int .u8 3, .int .u8 3, .int .u8 3, .int .u8 3, .int .u8 3, .int .u8 3, .int .u8 3, .int .u8 3, .int .u8 35, .int .u8 3, .int .u8 3, .int .u8 52, .int .u8 4, .int .u8 4, .int .u8 4, .int .u8 68, .int .u8 241, .int .u8 241, .int .u8 241, .int .u8 241, .int .u8 241, .int .u8 241, .int .u8 241, .int .u8 241, .int .u8 241, .int .u8 241, .int .u8 241]) 7 #[.int .u8 128, .int .u8 191, .int .u8 160, .int .u8 191, .int .u8 128, .int .u8 159, .int .u8 144, .int .u8 191, .int .u8 128, .int .u8 143, .int .u8 0, .int .u8 0, .int .u8 0, .int .u8 0, .int .u8 0, .int .u8 0, .int .u8 0, .int .u8 0, .int .u8 0, .int .u8 0, .int .u8 0, .int .u8 0, .int .u8 0, .int .u8 0, .int .u8 0, .int .u8 0, .int .u8 0, .int .u8 0, .int .u8 0, .int .u8 0, .int .u8 0, .int .u8 0]
  { w0 with heap := h2 }
noncomputable abbrev N0 : Nat := (World.settled Tryd.prog default).heap.size
set_option maxRecDepth 1000000 in
theorem laid_piece (os : Os) (args : Array Value) : LaidIn Tryd.prog ((laidWorld os).forCall (fun _ _ => 0) ⟨#[], args, []⟩).memory laidAll [4, 5, 1, 7, 3, N0, 2, N0 + 1, 6] :=
  LaidIn.of_run [4, 5, 1, 7, 3, N0, 2, N0 + 1, 6] 10 (by kernel_rfl) (by kernel_rfl) (by kernel_rfl) (by kernel_rfl)
theorem laid_met (os : Os) (args : Array Value) : laidMet Tryd.prog laidAll ((laidWorld os).forCall (fun _ _ => 0) ⟨#[], args, []⟩).memory := (laid_piece os args).met
theorem star : "*" ++ "errors.errorString" = "*errors.errorString" := by decide
theorem row143 (u : TypeId) (h : Tryd.prog.typeName? 3 u = some "*errors.errorString") : u = 143 :=
  typeName_ptr_named (nm := "errors.errorString") (by rw [star]; kernel_rfl) (by kernel_rfl) (by decide) u (by rw [star]; exact h)
theorem lw_of {W : World} (h : laidMetH Tryd.prog laidAll W) (hS : W.ShapedOpen Tryd.prog) : LW W := by
  rw [show laidMetH Tryd.prog laidAll W = laidMet Tryd.prog laidAll W from rfl] at h
  have hp : Lib.TabIs Tryd.prog W "internal/strconv.uint64pow10" .u64 Lib.pow10Tab :=
    Lib.tabIs_of_head gPow gPowT Tryd.underlying129 Tryd.underlying114 (by kernel_rfl) cellsPow (by have := h.tail.tail; rw [pow_eq] at this; exact this)
  obtain ⟨a0, s0, hv0, -, -, -⟩ := laid_sentinel h.tail.tail.tail.tail gER gERT Tryd.underlying71 row143 Tryd.underlying143 Tryd.underlying145 rfl rfl Tryd.underlying9 (by kernel_rfl) (by kernel_rfl)
  obtain ⟨a1, s1, hv1, -, -, -⟩ := laid_sentinel h.tail.tail.tail.tail.tail gES gEST Tryd.underlying71 row143 Tryd.underlying143 Tryd.underlying145 rfl rfl Tryd.underlying9 (by kernel_rfl) (by kernel_rfl)
  refine ⟨hp, Tryd.laysM145.s1_3 W hS, ⟨_, by have h0 := World.var?_cell gES hv1 0; simpa using h0, Or.inr ⟨_, _, rfl⟩⟩, ⟨_, by have h0 := World.var?_cell gER hv0 0; simpa using h0, Or.inr ⟨_, _, rfl⟩⟩⟩
end Go.Proofs.YtfkfgjmhcfagkaaDoor.Given
end
