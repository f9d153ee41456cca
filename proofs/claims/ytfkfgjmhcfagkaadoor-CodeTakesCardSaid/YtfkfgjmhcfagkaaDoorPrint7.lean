-- Laid by a program of this session (hybrid.py) over the kit's print.
import Derived.Test.YtfkfgjmhcfagkaaDoorPrint0
import Derived.Test.YtfkfgjmhcfagkaaDoorPrint6
namespace Go.Proofs.YtfkfgjmhcfagkaaDoor.Print
open Go.RowKit
open Go.RowKit Go.Proofs.YtfkfgjmhcfagkaaDoorW.PrintWords Go.Proofs.YtfkfgjmhcfagkaaDoorW.PrintLast Go.Proofs.YtfkfgjmhcfagkaaDoorW.PrintMore
attribute [local go_sem] max2_int min2_int max_two min_two max_three min_three max_four min_four   -- for this text's walks alone
set_option linter.unusedVariables false
set_option linter.unusedSimpArgs false

/-! ### squintref08_Pops: function 17 -/
mutual
def squintref08_Pops.j0 : Nat → Int → Bool → Int → Int → Int → List Int → Option (Int)
  | 0, _, _, _, _, _, _ => none
  | k + 1, x8, x9, x187000, x187001, x187002, x187003 => if x9 = true then (some 1) else (if x8 = 12 then (squintref08_Pops.j1 k x8 (x8 == 12) x187000 x187001 x187002 x187003) else (if x8 = 14 then (squintref08_Pops.j1 k x8 (x8 == 14) x187000 x187001 x187002 x187003) else (squintref08_Pops.j1 k x8 (x8 == 18) x187000 x187001 x187002 x187003)))
def squintref08_Pops.j1 : Nat → Int → Bool → Int → Int → Int → List Int → Option (Int)
  | 0, _, _, _, _, _, _ => none
  | k + 1, x8, x16, x187000, x187001, x187002, x187003 => if x16 = true then (some 2) else (if x8 = 10 then (squintref08_Pops.j2 k x8 (x8 == 10) x187000 x187001 x187002 x187003) else (squintref08_Pops.j2 k x8 (x8 == 11) x187000 x187001 x187002 x187003))
def squintref08_Pops.j2 : Nat → Int → Bool → Int → Int → Int → List Int → Option (Int)
  | 0, _, _, _, _, _, _ => none
  | k + 1, x8, x20, x187000, x187001, x187002, x187003 => if x20 = true then ((squintref08_some.f x187001).bind fun t187 => (some t187)) else (if x8 = 22 then ((squintref08_some.f x187002).bind fun t188 => (some t188)) else (if x8 = 23 then (squintref08_Pops.j3 k x8 (x8 == 23) x187000 x187001 x187002 x187003) else (squintref08_Pops.j3 k x8 (x8 == 24) x187000 x187001 x187002 x187003)))
def squintref08_Pops.j3 : Nat → Int → Bool → Int → Int → Int → List Int → Option (Int)
  | 0, _, _, _, _, _, _ => none
  | k + 1, x8, x31, x187000, x187001, x187002, x187003 => if x31 = true then (if x187001 = 9223372036854775807 then (some x187001) else ((squintref08_some.f x187001).bind fun t189 => (some (wrap64 (t189 + 1))))) else (if x8 = 16 then (squintref08_Pops.l0 k 1 0 x187000 x187001 x187002 x187003) else (if x8 = 27 then (squintref08_Pops.l1 k 0 0 x187000 x187001 x187002 x187003) else (some 0)))
def squintref08_Pops.l0 : Nat → Int → Int → Int → Int → Int → List Int → Option (Int)
  | 0, _, _, _, _, _, _ => none
  | k + 1, x3, x4, x187000, x187001, x187002, x187003 => if x4 < (x187003.length : Int) then (if 0 ≤ x4 then (if (rd x187003 x4) = (-1) then (squintref08_Pops.l0 k (wrap64 (x3 + 1)) (wrap64 (x4 + 1)) x187000 x187001 x187002 x187003) else (squintref08_Pops.l0 k x3 (wrap64 (x4 + 1)) x187000 x187001 x187002 x187003)) else (none)) else (some x3)
def squintref08_Pops.l1 : Nat → Int → Int → Int → Int → Int → List Int → Option (Int)
  | 0, _, _, _, _, _, _ => none
  | k + 1, x5, x6, x187000, x187001, x187002, x187003 => if x6 < (x187003.length : Int) then (if 0 ≤ x6 then (if (rd x187003 x6) = 1 then (squintref08_Pops.l1 k (wrap64 ((wrap64 (x5 + 1)) + 1)) (wrap64 (x6 + 2)) x187000 x187001 x187002 x187003) else (squintref08_Pops.l1 k (wrap64 (x5 + 1)) (wrap64 (x6 + 2)) x187000 x187001 x187002 x187003)) else (none)) else (some x5)
end
def squintref08_Pops.f (k : Nat) (a0_0 : Int) (a0_1 : Int) (a0_2 : Int) (l0_3 : List Int) : Option (Int) := if a0_0 = 5 then (squintref08_Pops.j0 k a0_0 (a0_0 == 5) a0_0 a0_1 a0_2 l0_3) else (if a0_0 = 9 then (squintref08_Pops.j0 k a0_0 (a0_0 == 9) a0_0 a0_1 a0_2 l0_3) else (if a0_0 = 13 then (squintref08_Pops.j0 k a0_0 (a0_0 == 13) a0_0 a0_1 a0_2 l0_3) else (if a0_0 = 15 then (squintref08_Pops.j0 k a0_0 (a0_0 == 15) a0_0 a0_1 a0_2 l0_3) else (if a0_0 = 17 then (squintref08_Pops.j0 k a0_0 (a0_0 == 17) a0_0 a0_1 a0_2 l0_3) else (squintref08_Pops.j0 k a0_0 (a0_0 == 20) a0_0 a0_1 a0_2 l0_3)))))
theorem squintref08_Pops.mono_l : ∀ k, (∀ y0 y1 y2 y3 y4 y5, LeO (squintref08_Pops.j0 k y0 y1 y2 y3 y4 y5) (squintref08_Pops.j0 (k + 1) y0 y1 y2 y3 y4 y5)) ∧ (∀ y0 y1 y2 y3 y4 y5, LeO (squintref08_Pops.j1 k y0 y1 y2 y3 y4 y5) (squintref08_Pops.j1 (k + 1) y0 y1 y2 y3 y4 y5)) ∧ (∀ y0 y1 y2 y3 y4 y5, LeO (squintref08_Pops.j2 k y0 y1 y2 y3 y4 y5) (squintref08_Pops.j2 (k + 1) y0 y1 y2 y3 y4 y5)) ∧ (∀ y0 y1 y2 y3 y4 y5, LeO (squintref08_Pops.j3 k y0 y1 y2 y3 y4 y5) (squintref08_Pops.j3 (k + 1) y0 y1 y2 y3 y4 y5)) ∧ (∀ y0 y1 y2 y3 y4 y5, LeO (squintref08_Pops.l0 k y0 y1 y2 y3 y4 y5) (squintref08_Pops.l0 (k + 1) y0 y1 y2 y3 y4 y5)) ∧ (∀ y0 y1 y2 y3 y4 y5, LeO (squintref08_Pops.l1 k y0 y1 y2 y3 y4 y5) (squintref08_Pops.l1 (k + 1) y0 y1 y2 y3 y4 y5))
  | 0 => ⟨fun _ _ _ _ _ _ r h => by simp [squintref08_Pops.j0] at h, fun _ _ _ _ _ _ r h => by simp [squintref08_Pops.j1] at h, fun _ _ _ _ _ _ r h => by simp [squintref08_Pops.j2] at h, fun _ _ _ _ _ _ r h => by simp [squintref08_Pops.j3] at h, fun _ _ _ _ _ _ r h => by simp [squintref08_Pops.l0] at h, fun _ _ _ _ _ _ r h => by simp [squintref08_Pops.l1] at h⟩
  | k + 1 => by
    obtain ⟨ih0, ih1, ih2, ih3, ih4, ih5⟩ := squintref08_Pops.mono_l k
    refine ⟨?_, ?_, ?_, ?_, ?_, ?_⟩
    · intro y0 y1 y2 y3 y4 y5
      unfold squintref08_Pops.j0
      repeat' first
      | (with_reducible exact ih0 _ _ _ _ _ _)
      | (with_reducible exact ih1 _ _ _ _ _ _)
      | (with_reducible exact ih2 _ _ _ _ _ _)
      | (with_reducible exact ih3 _ _ _ _ _ _)
      | (with_reducible exact ih4 _ _ _ _ _ _)
      | (with_reducible exact ih5 _ _ _ _ _ _)
      | (with_reducible exact LeO.refl _)
      | (with_reducible exact LeO.none _)
      | (with_reducible refine LeO.ite ?_ ?_)
      | (with_reducible refine LeO.bind ?_ (fun _ => ?_))
      | exact ih0 _ _ _ _ _ _
      | exact ih1 _ _ _ _ _ _
      | exact ih2 _ _ _ _ _ _
      | exact ih3 _ _ _ _ _ _
      | exact ih4 _ _ _ _ _ _
      | exact ih5 _ _ _ _ _ _
      | exact LeO.none _
      | refine LeO.ite ?_ ?_
      | refine LeO.bind ?_ (fun _ => ?_)
    · intro y0 y1 y2 y3 y4 y5
      unfold squintref08_Pops.j1
      repeat' first
      | (with_reducible exact ih0 _ _ _ _ _ _)
      | (with_reducible exact ih1 _ _ _ _ _ _)
      | (with_reducible exact ih2 _ _ _ _ _ _)
      | (with_reducible exact ih3 _ _ _ _ _ _)
      | (with_reducible exact ih4 _ _ _ _ _ _)
      | (with_reducible exact ih5 _ _ _ _ _ _)
      | (with_reducible exact LeO.refl _)
      | (with_reducible exact LeO.none _)
      | (with_reducible refine LeO.ite ?_ ?_)
      | (with_reducible refine LeO.bind ?_ (fun _ => ?_))
      | exact ih0 _ _ _ _ _ _
      | exact ih1 _ _ _ _ _ _
      | exact ih2 _ _ _ _ _ _
      | exact ih3 _ _ _ _ _ _
      | exact ih4 _ _ _ _ _ _
      | exact ih5 _ _ _ _ _ _
      | exact LeO.none _
      | refine LeO.ite ?_ ?_
      | refine LeO.bind ?_ (fun _ => ?_)
    · intro y0 y1 y2 y3 y4 y5
      unfold squintref08_Pops.j2
      repeat' first
      | (with_reducible exact ih0 _ _ _ _ _ _)
      | (with_reducible exact ih1 _ _ _ _ _ _)
      | (with_reducible exact ih2 _ _ _ _ _ _)
      | (with_reducible exact ih3 _ _ _ _ _ _)
      | (with_reducible exact ih4 _ _ _ _ _ _)
      | (with_reducible exact ih5 _ _ _ _ _ _)
      | (with_reducible exact LeO.refl _)
      | (with_reducible exact LeO.none _)
      | (with_reducible refine LeO.ite ?_ ?_)
      | (with_reducible refine LeO.bind ?_ (fun _ => ?_))
      | exact ih0 _ _ _ _ _ _
      | exact ih1 _ _ _ _ _ _
      | exact ih2 _ _ _ _ _ _
      | exact ih3 _ _ _ _ _ _
      | exact ih4 _ _ _ _ _ _
      | exact ih5 _ _ _ _ _ _
      | exact LeO.none _
      | refine LeO.ite ?_ ?_
      | refine LeO.bind ?_ (fun _ => ?_)
    · intro y0 y1 y2 y3 y4 y5
      unfold squintref08_Pops.j3
      repeat' first
      | (with_reducible exact ih0 _ _ _ _ _ _)
      | (with_reducible exact ih1 _ _ _ _ _ _)
      | (with_reducible exact ih2 _ _ _ _ _ _)
      | (with_reducible exact ih3 _ _ _ _ _ _)
      | (with_reducible exact ih4 _ _ _ _ _ _)
      | (with_reducible exact ih5 _ _ _ _ _ _)
      | (with_reducible exact LeO.refl _)
      | (with_reducible exact LeO.none _)
      | (with_reducible refine LeO.ite ?_ ?_)
      | (with_reducible refine LeO.bind ?_ (fun _ => ?_))
      | exact ih0 _ _ _ _ _ _
      | exact ih1 _ _ _ _ _ _
      | exact ih2 _ _ _ _ _ _
      | exact ih3 _ _ _ _ _ _
      | exact ih4 _ _ _ _ _ _
      | exact ih5 _ _ _ _ _ _
      | exact LeO.none _
      | refine LeO.ite ?_ ?_
      | refine LeO.bind ?_ (fun _ => ?_)
    · intro y0 y1 y2 y3 y4 y5
      unfold squintref08_Pops.l0
      repeat' first
      | (with_reducible exact ih0 _ _ _ _ _ _)
      | (with_reducible exact ih1 _ _ _ _ _ _)
      | (with_reducible exact ih2 _ _ _ _ _ _)
      | (with_reducible exact ih3 _ _ _ _ _ _)
      | (with_reducible exact ih4 _ _ _ _ _ _)
      | (with_reducible exact ih5 _ _ _ _ _ _)
      | (with_reducible exact LeO.refl _)
      | (with_reducible exact LeO.none _)
      | (with_reducible refine LeO.ite ?_ ?_)
      | (with_reducible refine LeO.bind ?_ (fun _ => ?_))
      | exact ih0 _ _ _ _ _ _
      | exact ih1 _ _ _ _ _ _
      | exact ih2 _ _ _ _ _ _
      | exact ih3 _ _ _ _ _ _
      | exact ih4 _ _ _ _ _ _
      | exact ih5 _ _ _ _ _ _
      | exact LeO.none _
      | refine LeO.ite ?_ ?_
      | refine LeO.bind ?_ (fun _ => ?_)
    · intro y0 y1 y2 y3 y4 y5
      unfold squintref08_Pops.l1
      repeat' first
      | (with_reducible exact ih0 _ _ _ _ _ _)
      | (with_reducible exact ih1 _ _ _ _ _ _)
      | (with_reducible exact ih2 _ _ _ _ _ _)
      | (with_reducible exact ih3 _ _ _ _ _ _)
      | (with_reducible exact ih4 _ _ _ _ _ _)
      | (with_reducible exact ih5 _ _ _ _ _ _)
      | (with_reducible exact LeO.refl _)
      | (with_reducible exact LeO.none _)
      | (with_reducible refine LeO.ite ?_ ?_)
      | (with_reducible refine LeO.bind ?_ (fun _ => ?_))
      | exact ih0 _ _ _ _ _ _
      | exact ih1 _ _ _ _ _ _
      | exact ih2 _ _ _ _ _ _
      | exact ih3 _ _ _ _ _ _
      | exact ih4 _ _ _ _ _ _
      | exact ih5 _ _ _ _ _ _
      | exact LeO.none _
      | refine LeO.ite ?_ ?_
      | refine LeO.bind ?_ (fun _ => ?_)
theorem squintref08_Pops.mono : ∀ a0 a1 a2 a3 k, LeO (squintref08_Pops.f k a0 a1 a2 a3) (squintref08_Pops.f (k + 1) a0 a1 a2 a3) := by
  intro a0 a1 a2 a3 k
  obtain ⟨ih0, ih1, ih2, ih3, ih4, ih5⟩ := squintref08_Pops.mono_l k
  unfold squintref08_Pops.f
  repeat' first
      | (with_reducible exact ih0 _ _ _ _ _ _)
      | (with_reducible exact ih1 _ _ _ _ _ _)
      | (with_reducible exact ih2 _ _ _ _ _ _)
      | (with_reducible exact ih3 _ _ _ _ _ _)
      | (with_reducible exact ih4 _ _ _ _ _ _)
      | (with_reducible exact ih5 _ _ _ _ _ _)
      | (with_reducible exact LeO.refl _)
      | (with_reducible exact LeO.none _)
      | (with_reducible refine LeO.ite ?_ ?_)
      | (with_reducible refine LeO.bind ?_ (fun _ => ?_))
      | exact ih0 _ _ _ _ _ _
      | exact ih1 _ _ _ _ _ _
      | exact ih2 _ _ _ _ _ _
      | exact ih3 _ _ _ _ _ _
      | exact ih4 _ _ _ _ _ _
      | exact ih5 _ _ _ _ _ _
      | exact LeO.none _
      | refine LeO.ite ?_ ?_
      | refine LeO.bind ?_ (fun _ => ?_)
set_option maxHeartbeats 8000000 in
set_option maxRecDepth 100000 in
theorem squintref08_Pops.calls (k : Nat) (a0_0 : Int) (a0_1 : Int) (a0_2 : Int) (A0_3 : Option Addr) (c0_3 : Nat) (l0_3 : List Int) (r : Int) (w : World) (hr0_3 : Kd.C (Kd.int .i64) w A0_3 l0_3.length l0_3) (hc0_3 : l0_3.length ≤ c0_3) (h : squintref08_Pops.f k a0_0 a0_1 a0_2 l0_3 = some r) :
    Calls Tryd.prog 17 #[.agg #[.int .i64 a0_0, .int .i64 a0_1, .int .i64 a0_2, .slice A0_3 l0_3.length c0_3]] w fun e w' => e = .returned (.int .i64 r) ∧ Below w.heap.size w w' := by
  have hu28 := Tryd.underlying28
  have HR0_3 := Aside0.mk hr0_3
  have HC0_3 := Aside0.mk hc0_3
  clear hr0_3 hc0_3
  have HB := Aside0.mk (Below.refl w.heap.size w)
  have H : (if a0_0 = 5 then (squintref08_Pops.j0 k a0_0 (a0_0 == 5) a0_0 a0_1 a0_2 l0_3) else (if a0_0 = 9 then (squintref08_Pops.j0 k a0_0 (a0_0 == 9) a0_0 a0_1 a0_2 l0_3) else (if a0_0 = 13 then (squintref08_Pops.j0 k a0_0 (a0_0 == 13) a0_0 a0_1 a0_2 l0_3) else (if a0_0 = 15 then (squintref08_Pops.j0 k a0_0 (a0_0 == 15) a0_0 a0_1 a0_2 l0_3) else (if a0_0 = 17 then (squintref08_Pops.j0 k a0_0 (a0_0 == 17) a0_0 a0_1 a0_2 l0_3) else (squintref08_Pops.j0 k a0_0 (a0_0 == 20) a0_0 a0_1 a0_2 l0_3)))))) = some r := h
  clear h
  have HC2 := Aside0.mk H
  clear H
  go_enter Tryd.func17, Tryd.ntmps17
  go_upto_if 9 with (first | ((with_reducible refine gate_dst (N := 1) rfl ?_); refine box_event ?hg (N := 1) ?hd (cs := #[.int .i64 a0_0, .int .i64 a0_1, .int .i64 a0_2, .slice A0_3 l0_3.length c0_3]) (t := 28) ?hr ?_; (case hd => rfl); (case hg => rfl); (case hr => first | (go_simp; done) | (go_simp; rfl)); intro gb186 hg w3 hbox hb; have n0_ := Aside0.mk (below_step (by repeat (first | (with_reducible first | exact HB.out | apply below_alloc | apply pw_below_drewN | apply below_drew1) | exact HB.out)) hb); have n1_ := Aside0.mk (hbox); have n2_ := Aside0.mk ((by rw [hg]; exact (below_size (by repeat (first | (with_reducible first | exact HB.out | apply below_alloc | apply pw_below_drewN | apply below_drew1) | exact HB.out))) : w.heap.size ≤ gb186)); have n3_ := Aside0.mk ((by rw [hg]; exact (below_size (by repeat (first | (with_reducible first | exact HB.out | apply below_alloc | apply pw_below_drewN | apply below_drew1) | exact HB.out))) : w.heap.size ≤ gb186)); clear HB; have HB := n0_; have BK186 := n1_; have GW186 := n2_; have GE186 := n3_; clear n0_ n1_ n2_ n3_; clear hb hbox hg; have hcz4_0 : w3.cell? ⟨gb186, 0, none⟩ = some (.int .i64 a0_0) := (blk_cell BK186.out 0).trans rfl; have hcz4_1 : w3.cell? ⟨gb186, 1, none⟩ = some (.int .i64 a0_1) := (blk_cell BK186.out 1).trans rfl; have hcz4_2 : w3.cell? ⟨gb186, 2, none⟩ = some (.int .i64 a0_2) := (blk_cell BK186.out 2).trans rfl; have hcz4_3 : w3.cell? ⟨gb186, 3, none⟩ = some (.slice A0_3 l0_3.length c0_3) := (blk_cell BK186.out 3).trans rfl; have hfz4_0 := blk_frozen BK186.out 0; have hfz4_1 := blk_frozen BK186.out 1; have hfz4_2 := blk_frozen BK186.out 2; have hfz4_3 := blk_frozen BK186.out 3))
  (try simp only [Act.put, List.setIfInBounds_toArray, List.set_cons_zero, List.set_cons_succ])
  go_cut [9] (fun v9 wc => ∃ (kq : Nat) (x9_1 : Bool), v9 = .bool x9_1 ∧ Aside0 (squintref08_Pops.j0 kq a0_0 x9_1 a0_0 a0_1 a0_2 l0_3 = some r) ∧ Aside0 (kq ≤ k) ∧ Aside0 (wc.heap[gb186]? = some (.cells #[.int .i64 a0_0, .int .i64 a0_1, .int .i64 a0_2, (.slice A0_3 l0_3.length c0_3)] 28 (0, 0))) ∧ Aside0 (Below w.heap.size w wc))
  case first =>
    have H := HC2.out
    clear HC2
    by_cases c5 : a0_0 = 5
    · rw [if_pos c5] at H
      have c5b0 : (a0_0 == 5) = true := beq_iff_eq.mpr c5
      have c5b1 : (a0_0 != 5) = false := bne_eq_false_iff_eq.mpr c5
      clear c5
      (first | rw [c5b0] | (simp only [i64_w, i32_w]; rw [c5b0]) | skip)
      have H' := Aside0.mk H
      clear H
      go_wp2
      go_meet
      case rel => exact ⟨_, ((a0_0 == 5)), (by first | rfl | (simp; done) | (simp [*]; done)), H', ⟨by first | omega | exact Nat.le_refl _⟩, ⟨by (with_reducible repeat (first | refine blk_drewN ?_ _ | refine blk_drew ?_ | refine blk_alloc ?_ _)); exact BK186.out⟩, ⟨by repeat (first | (with_reducible first | exact HB.out | apply below_alloc | apply pw_below_drewN | apply below_drew1 | refine below_set ?_ GE186.out) | exact HB.out)⟩⟩
    · rw [if_neg c5] at H
      have c5b0 : (a0_0 == 5) = false := beq_eq_false_iff_ne.mpr c5
      have c5b1 : (a0_0 != 5) = true := bne_iff_ne.mpr c5
      (first | rw [c5b0] | (simp only [i64_w, i32_w]; rw [c5b0]) | skip)
      by_cases c6 : a0_0 = 9
      · rw [if_pos c6] at H
        have c6b0 : (a0_0 == 9) = true := beq_iff_eq.mpr c6
        have c6b1 : (a0_0 != 9) = false := bne_eq_false_iff_eq.mpr c6
        clear c6
        have H' := Aside0.mk H
        clear H
        go_wp2
        go_meet
        case rel => exact ⟨_, ((a0_0 == 9)), (by first | rfl | (simp; done) | (simp [*]; done)), H', ⟨by first | omega | exact Nat.le_refl _⟩, ⟨by (with_reducible repeat (first | refine blk_drewN ?_ _ | refine blk_drew ?_ | refine blk_alloc ?_ _)); exact BK186.out⟩, ⟨by repeat (first | (with_reducible first | exact HB.out | apply below_alloc | apply pw_below_drewN | apply below_drew1 | refine below_set ?_ GE186.out) | exact HB.out)⟩⟩
      · rw [if_neg c6] at H
        have c6b0 : (a0_0 == 9) = false := beq_eq_false_iff_ne.mpr c6
        have c6b1 : (a0_0 != 9) = true := bne_iff_ne.mpr c6
        by_cases c7 : a0_0 = 13
        · rw [if_pos c7] at H
          have c7b0 : (a0_0 == 13) = true := beq_iff_eq.mpr c7
          have c7b1 : (a0_0 != 13) = false := bne_eq_false_iff_eq.mpr c7
          clear c7
          have H' := Aside0.mk H
          clear H
          go_wp2
          go_meet
          case rel => exact ⟨_, ((a0_0 == 13)), (by first | rfl | (simp; done) | (simp [*]; done)), H', ⟨by first | omega | exact Nat.le_refl _⟩, ⟨by (with_reducible repeat (first | refine blk_drewN ?_ _ | refine blk_drew ?_ | refine blk_alloc ?_ _)); exact BK186.out⟩, ⟨by repeat (first | (with_reducible first | exact HB.out | apply below_alloc | apply pw_below_drewN | apply below_drew1 | refine below_set ?_ GE186.out) | exact HB.out)⟩⟩
        · rw [if_neg c7] at H
          have c7b0 : (a0_0 == 13) = false := beq_eq_false_iff_ne.mpr c7
          have c7b1 : (a0_0 != 13) = true := bne_iff_ne.mpr c7
          by_cases c8 : a0_0 = 15
          · rw [if_pos c8] at H
            have c8b0 : (a0_0 == 15) = true := beq_iff_eq.mpr c8
            have c8b1 : (a0_0 != 15) = false := bne_eq_false_iff_eq.mpr c8
            clear c8
            have H' := Aside0.mk H
            clear H
            go_wp2
            go_meet
            case rel => exact ⟨_, ((a0_0 == 15)), (by first | rfl | (simp; done) | (simp [*]; done)), H', ⟨by first | omega | exact Nat.le_refl _⟩, ⟨by (with_reducible repeat (first | refine blk_drewN ?_ _ | refine blk_drew ?_ | refine blk_alloc ?_ _)); exact BK186.out⟩, ⟨by repeat (first | (with_reducible first | exact HB.out | apply below_alloc | apply pw_below_drewN | apply below_drew1 | refine below_set ?_ GE186.out) | exact HB.out)⟩⟩
          · rw [if_neg c8] at H
            have c8b0 : (a0_0 == 15) = false := beq_eq_false_iff_ne.mpr c8
            have c8b1 : (a0_0 != 15) = true := bne_iff_ne.mpr c8
            by_cases c9 : a0_0 = 17
            · rw [if_pos c9] at H
              have c9b0 : (a0_0 == 17) = true := beq_iff_eq.mpr c9
              have c9b1 : (a0_0 != 17) = false := bne_eq_false_iff_eq.mpr c9
              clear c9
              have H' := Aside0.mk H
              clear H
              go_wp2
              go_meet
              case rel => exact ⟨_, ((a0_0 == 17)), (by first | rfl | (simp; done) | (simp [*]; done)), H', ⟨by first | omega | exact Nat.le_refl _⟩, ⟨by (with_reducible repeat (first | refine blk_drewN ?_ _ | refine blk_drew ?_ | refine blk_alloc ?_ _)); exact BK186.out⟩, ⟨by repeat (first | (with_reducible first | exact HB.out | apply below_alloc | apply pw_below_drewN | apply below_drew1 | refine below_set ?_ GE186.out) | exact HB.out)⟩⟩
            · rw [if_neg c9] at H
              have c9b0 : (a0_0 == 17) = false := beq_eq_false_iff_ne.mpr c9
              have c9b1 : (a0_0 != 17) = true := bne_iff_ne.mpr c9
              have H' := Aside0.mk H
              clear H
              go_wp2
              go_meet
              case rel => exact ⟨_, ((a0_0 == 20)), (by first | rfl | (simp; done) | (simp [*]; done)), H', ⟨by first | omega | exact Nat.le_refl _⟩, ⟨by (with_reducible repeat (first | refine blk_drewN ?_ _ | refine blk_drew ?_ | refine blk_alloc ?_ _)); exact BK186.out⟩, ⟨by repeat (first | (with_reducible first | exact HB.out | apply below_alloc | apply pw_below_drewN | apply below_drew1 | refine below_set ?_ GE186.out) | exact HB.out)⟩⟩
  case rest =>
    clear HC2
    try clear c1
    try clear p2
    try clear c5
    try clear c5b0
    try clear c5b1
    try clear c6
    try clear c6b0
    try clear c6b1
    try clear c7
    try clear c7b0
    try clear c7b1
    try clear c8
    try clear c8b0
    try clear c8b1
    try clear c9
    try clear c9b0
    try clear c9b1
    try clear hcz4_0
    try clear hcz4_1
    try clear hcz4_2
    try clear hcz4_3
    try clear hfz4_0
    try clear hfz4_1
    try clear hfz4_2
    try clear hfz4_3
    obtain ⟨kq, x9_1, rfl, HA, HJ1, BK186, HB⟩ := hcut
    cases kq with
    | zero => exact absurd HA.out (by simp [squintref08_Pops.j0])
    | succ kj1 =>
      have H := HA.out
      clear HA
      simp only [squintref08_Pops.j0] at H
      by_cases c10 : x9_1 = true
      · subst c10
        have H1 : (some 1) = some r := by rw [if_pos rfl] at H; exact H
        clear H
        have H := H1
        clear H1
        obtain rfl := Option.some.inj H
        go_wp2
        go_ret
        exact ⟨by first | rfl | (simp [errW_none, errW_some] <;> rfl) | (simp [*, errW_none, errW_some] <;> rfl), by repeat (first | (with_reducible first | exact HB.out | apply below_alloc | apply pw_below_drewN | apply below_drew1 | refine below_set ?_ GE186.out) | exact HB.out)⟩
      · replace c10 := Bool.eq_false_iff.mpr c10
        subst c10
        have H1 : (if a0_0 = 12 then (squintref08_Pops.j1 kj1 a0_0 (a0_0 == 12) a0_0 a0_1 a0_2 l0_3) else (if a0_0 = 14 then (squintref08_Pops.j1 kj1 a0_0 (a0_0 == 14) a0_0 a0_1 a0_2 l0_3) else (squintref08_Pops.j1 kj1 a0_0 (a0_0 == 18) a0_0 a0_1 a0_2 l0_3))) = some r := by rw [if_neg (show ¬ (false = true) by decide)] at H; exact H
        clear H
        have H := H1
        clear H1
        have HC11 := Aside0.mk H
        clear H
        go_upto_if 16 with (fail)
        go_cut [16] (fun v16 wc => ∃ (kq : Nat) (x16_10 : Bool), v16 = .bool x16_10 ∧ Aside0 (squintref08_Pops.j1 kq a0_0 x16_10 a0_0 a0_1 a0_2 l0_3 = some r) ∧ Aside0 (kq ≤ kj1) ∧ Aside0 (wc.heap[gb186]? = some (.cells #[.int .i64 a0_0, .int .i64 a0_1, .int .i64 a0_2, (.slice A0_3 l0_3.length c0_3)] 28 (0, 0))) ∧ Aside0 (Below w.heap.size w wc))
        case first =>
          have H := HC11.out
          clear HC11
          by_cases c12 : a0_0 = 12
          · rw [if_pos c12] at H
            have c12b0 : (a0_0 == 12) = true := beq_iff_eq.mpr c12
            have c12b1 : (a0_0 != 12) = false := bne_eq_false_iff_eq.mpr c12
            clear c12
            (first | rw [c12b0] | (simp only [i64_w, i32_w]; rw [c12b0]) | skip)
            have H' := Aside0.mk H
            clear H
            go_wp2
            go_meet
            case rel => exact ⟨_, ((a0_0 == 12)), (by first | rfl | (simp; done) | (simp [*]; done)), H', ⟨by have := HJ1.out; first | omega | exact Nat.le_refl _⟩, ⟨by (with_reducible repeat (first | refine blk_drewN ?_ _ | refine blk_drew ?_ | refine blk_alloc ?_ _)); exact BK186.out⟩, ⟨by repeat (first | (with_reducible first | exact HB.out | apply below_alloc | apply pw_below_drewN | apply below_drew1 | refine below_set ?_ GE186.out) | exact HB.out)⟩⟩
          · rw [if_neg c12] at H
            have c12b0 : (a0_0 == 12) = false := beq_eq_false_iff_ne.mpr c12
            have c12b1 : (a0_0 != 12) = true := bne_iff_ne.mpr c12
            (first | rw [c12b0] | (simp only [i64_w, i32_w]; rw [c12b0]) | skip)
            by_cases c13 : a0_0 = 14
            · rw [if_pos c13] at H
              have c13b0 : (a0_0 == 14) = true := beq_iff_eq.mpr c13
              have c13b1 : (a0_0 != 14) = false := bne_eq_false_iff_eq.mpr c13
              clear c13
              have H' := Aside0.mk H
              clear H
              go_wp2
              go_meet
              case rel => exact ⟨_, ((a0_0 == 14)), (by first | rfl | (simp; done) | (simp [*]; done)), H', ⟨by have := HJ1.out; first | omega | exact Nat.le_refl _⟩, ⟨by (with_reducible repeat (first | refine blk_drewN ?_ _ | refine blk_drew ?_ | refine blk_alloc ?_ _)); exact BK186.out⟩, ⟨by repeat (first | (with_reducible first | exact HB.out | apply below_alloc | apply pw_below_drewN | apply below_drew1 | refine below_set ?_ GE186.out) | exact HB.out)⟩⟩
            · rw [if_neg c13] at H
              have c13b0 : (a0_0 == 14) = false := beq_eq_false_iff_ne.mpr c13
              have c13b1 : (a0_0 != 14) = true := bne_iff_ne.mpr c13
              have H' := Aside0.mk H
              clear H
              go_wp2
              go_meet
              case rel => exact ⟨_, ((a0_0 == 18)), (by first | rfl | (simp; done) | (simp [*]; done)), H', ⟨by have := HJ1.out; first | omega | exact Nat.le_refl _⟩, ⟨by (with_reducible repeat (first | refine blk_drewN ?_ _ | refine blk_drew ?_ | refine blk_alloc ?_ _)); exact BK186.out⟩, ⟨by repeat (first | (with_reducible first | exact HB.out | apply below_alloc | apply pw_below_drewN | apply below_drew1 | refine below_set ?_ GE186.out) | exact HB.out)⟩⟩
        case rest =>
          clear HC11
          try clear c1
          try clear p2
          try clear c5
          try clear c5b0
          try clear c5b1
          try clear c6
          try clear c6b0
          try clear c6b1
          try clear c7
          try clear c7b0
          try clear c7b1
          try clear c8
          try clear c8b0
          try clear c8b1
          try clear c9
          try clear c9b0
          try clear c9b1
          try clear c10
          try clear c12
          try clear c12b0
          try clear c12b1
          try clear c13
          try clear c13b0
          try clear c13b1
          try clear hcz4_0
          try clear hcz4_1
          try clear hcz4_2
          try clear hcz4_3
          try clear hfz4_0
          try clear hfz4_1
          try clear hfz4_2
          try clear hfz4_3
          try clear p2
          obtain ⟨kq, x16_10, rfl, HA, HJ10, BK186, HB⟩ := hcut
          cases kq with
          | zero => exact absurd HA.out (by simp [squintref08_Pops.j1])
          | succ kj10 =>
            have H := HA.out
            clear HA
            simp only [squintref08_Pops.j1] at H
            by_cases c14 : x16_10 = true
            · subst c14
              have H1 : (some 2) = some r := by rw [if_pos rfl] at H; exact H
              clear H
              have H := H1
              clear H1
              obtain rfl := Option.some.inj H
              go_wp2
              go_ret
              exact ⟨by first | rfl | (simp [errW_none, errW_some] <;> rfl) | (simp [*, errW_none, errW_some] <;> rfl), by repeat (first | (with_reducible first | exact HB.out | apply below_alloc | apply pw_below_drewN | apply below_drew1 | refine below_set ?_ GE186.out) | exact HB.out)⟩
            · replace c14 := Bool.eq_false_iff.mpr c14
              subst c14
              have H1 : (if a0_0 = 10 then (squintref08_Pops.j2 kj10 a0_0 (a0_0 == 10) a0_0 a0_1 a0_2 l0_3) else (squintref08_Pops.j2 kj10 a0_0 (a0_0 == 11) a0_0 a0_1 a0_2 l0_3)) = some r := by rw [if_neg (show ¬ (false = true) by decide)] at H; exact H
              clear H
              have H := H1
              clear H1
              have HC15 := Aside0.mk H
              clear H
              go_upto_if 20 with (fail)
              go_cut [20] (fun v20 wc => ∃ (kq : Nat) (x20_14 : Bool), v20 = .bool x20_14 ∧ Aside0 (squintref08_Pops.j2 kq a0_0 x20_14 a0_0 a0_1 a0_2 l0_3 = some r) ∧ Aside0 (kq ≤ kj10) ∧ Aside0 (wc.heap[gb186]? = some (.cells #[.int .i64 a0_0, .int .i64 a0_1, .int .i64 a0_2, (.slice A0_3 l0_3.length c0_3)] 28 (0, 0))) ∧ Aside0 (Below w.heap.size w wc))
              case first =>
                have H := HC15.out
                clear HC15
                by_cases c16 : a0_0 = 10
                · rw [if_pos c16] at H
                  have c16b0 : (a0_0 == 10) = true := beq_iff_eq.mpr c16
                  have c16b1 : (a0_0 != 10) = false := bne_eq_false_iff_eq.mpr c16
                  clear c16
                  (first | rw [c16b0] | (simp only [i64_w, i32_w]; rw [c16b0]) | skip)
                  have H' := Aside0.mk H
                  clear H
                  go_wp2
                  go_meet
                  case rel => exact ⟨_, ((a0_0 == 10)), (by first | rfl | (simp; done) | (simp [*]; done)), H', ⟨by have := HJ1.out; have := HJ10.out; first | omega | exact Nat.le_refl _⟩, ⟨by (with_reducible repeat (first | refine blk_drewN ?_ _ | refine blk_drew ?_ | refine blk_alloc ?_ _)); exact BK186.out⟩, ⟨by repeat (first | (with_reducible first | exact HB.out | apply below_alloc | apply pw_below_drewN | apply below_drew1 | refine below_set ?_ GE186.out) | exact HB.out)⟩⟩
                · rw [if_neg c16] at H
                  have c16b0 : (a0_0 == 10) = false := beq_eq_false_iff_ne.mpr c16
                  have c16b1 : (a0_0 != 10) = true := bne_iff_ne.mpr c16
                  (first | rw [c16b0] | (simp only [i64_w, i32_w]; rw [c16b0]) | skip)
                  have H' := Aside0.mk H
                  clear H
                  go_wp2
                  go_meet
                  case rel => exact ⟨_, ((a0_0 == 11)), (by first | rfl | (simp; done) | (simp [*]; done)), H', ⟨by have := HJ1.out; have := HJ10.out; first | omega | exact Nat.le_refl _⟩, ⟨by (with_reducible repeat (first | refine blk_drewN ?_ _ | refine blk_drew ?_ | refine blk_alloc ?_ _)); exact BK186.out⟩, ⟨by repeat (first | (with_reducible first | exact HB.out | apply below_alloc | apply pw_below_drewN | apply below_drew1 | refine below_set ?_ GE186.out) | exact HB.out)⟩⟩
              case rest =>
                clear HC15
                try clear c1
                try clear p2
                try clear c5
                try clear c5b0
                try clear c5b1
                try clear c6
                try clear c6b0
                try clear c6b1
                try clear c7
                try clear c7b0
                try clear c7b1
                try clear c8
                try clear c8b0
                try clear c8b1
                try clear c9
                try clear c9b0
                try clear c9b1
                try clear c10
                try clear c12
                try clear c12b0
                try clear c12b1
                try clear c13
                try clear c13b0
                try clear c13b1
                try clear c14
                try clear c16
                try clear c16b0
                try clear c16b1
                try clear hcz4_0
                try clear hcz4_1
                try clear hcz4_2
                try clear hcz4_3
                try clear hfz4_0
                try clear hfz4_1
                try clear hfz4_2
                try clear hfz4_3
                try clear p2
                obtain ⟨kq, x20_14, rfl, HA, HJ14, BK186, HB⟩ := hcut
                cases kq with
                | zero => exact absurd HA.out (by simp [squintref08_Pops.j2])
                | succ kj14 =>
                  have H := HA.out
                  clear HA
                  simp only [squintref08_Pops.j2] at H
                  by_cases c17 : x20_14 = true
                  · subst c17
                    have H1 : ((squintref08_some.f a0_1).bind fun t187 => (some t187)) = some r := by rw [if_pos rfl] at H; exact H
                    clear H
                    have H := H1
                    clear H1
                    replace H := Option.bind_eq_some_iff.mp H
                    obtain ⟨t187, A180, H⟩ := H
                    replace H : (some t187) = some r := H
                    have A18 := Aside0.mk A180
                    clear A180
                    obtain rfl := Option.some.inj H
                    have hcz19_0 : wc.cell? ⟨gb186, 0, none⟩ = some (.int .i64 a0_0) := (blk_cell BK186.out 0).trans rfl
                    have hcz19_1 : wc.cell? ⟨gb186, 1, none⟩ = some (.int .i64 a0_1) := (blk_cell BK186.out 1).trans rfl
                    have hcz19_2 : wc.cell? ⟨gb186, 2, none⟩ = some (.int .i64 a0_2) := (blk_cell BK186.out 2).trans rfl
                    have hcz19_3 : wc.cell? ⟨gb186, 3, none⟩ = some (.slice A0_3 l0_3.length c0_3) := (blk_cell BK186.out 3).trans rfl
                    have hfz19_0 := blk_frozen BK186.out 0
                    have hfz19_1 := blk_frozen BK186.out 1
                    have hfz19_2 := blk_frozen BK186.out 2
                    have hfz19_3 := blk_frozen BK186.out 3
                    go_wp2_with (first | ((with_reducible refine gate_callee (f := 33) rfl ?_); refine goesL_ (some 25) rfl rfl Tryd.func33 (by kernel_rfl) rfl #[.int .i64 a0_1] rfl (by (try simp only [List.map_toArray, List.map_cons, List.map_nil]); first | done | rfl | (simp only [List.length_drop, List.length_take]; rfl)) ?_; (with_reducible refine (squintref08_some.calls a0_1 t187 _ A18.out).mono ?_); rintro e w' ⟨rfl, ⟨nd, rfl⟩⟩; refine ⟨_, rfl, ?_⟩))
                    go_ret
                    exact ⟨by first | rfl | (simp [errW_none, errW_some] <;> rfl) | (simp [*, errW_none, errW_some] <;> rfl), by repeat (first | (with_reducible first | exact HB.out | apply below_alloc | apply pw_below_drewN | apply below_drew1 | refine below_set ?_ GE186.out) | exact HB.out)⟩
                  · replace c17 := Bool.eq_false_iff.mpr c17
                    subst c17
                    have H1 : (if a0_0 = 22 then ((squintref08_some.f a0_2).bind fun t188 => (some t188)) else (if a0_0 = 23 then (squintref08_Pops.j3 kj14 a0_0 (a0_0 == 23) a0_0 a0_1 a0_2 l0_3) else (squintref08_Pops.j3 kj14 a0_0 (a0_0 == 24) a0_0 a0_1 a0_2 l0_3))) = some r := by rw [if_neg (show ¬ (false = true) by decide)] at H; exact H
                    clear H
                    have H := H1
                    clear H1
                    by_cases c20 : a0_0 = 22
                    · rw [if_pos c20] at H
                      have c20b0 : (a0_0 == 22) = true := beq_iff_eq.mpr c20
                      have c20b1 : (a0_0 != 22) = false := bne_eq_false_iff_eq.mpr c20
                      clear c20
                      replace H := Option.bind_eq_some_iff.mp H
                      obtain ⟨t188, A210, H⟩ := H
                      replace H : (some t188) = some r := H
                      have A21 := Aside0.mk A210
                      clear A210
                      obtain rfl := Option.some.inj H
                      have hcz22_0 : wc.cell? ⟨gb186, 0, none⟩ = some (.int .i64 a0_0) := (blk_cell BK186.out 0).trans rfl
                      have hcz22_1 : wc.cell? ⟨gb186, 1, none⟩ = some (.int .i64 a0_1) := (blk_cell BK186.out 1).trans rfl
                      have hcz22_2 : wc.cell? ⟨gb186, 2, none⟩ = some (.int .i64 a0_2) := (blk_cell BK186.out 2).trans rfl
                      have hcz22_3 : wc.cell? ⟨gb186, 3, none⟩ = some (.slice A0_3 l0_3.length c0_3) := (blk_cell BK186.out 3).trans rfl
                      have hfz22_0 := blk_frozen BK186.out 0
                      have hfz22_1 := blk_frozen BK186.out 1
                      have hfz22_2 := blk_frozen BK186.out 2
                      have hfz22_3 := blk_frozen BK186.out 3
                      go_wp2_with (first | ((with_reducible refine gate_callee (f := 33) rfl ?_); refine goesL_ (some 30) rfl rfl Tryd.func33 (by kernel_rfl) rfl #[.int .i64 a0_2] rfl (by (try simp only [List.map_toArray, List.map_cons, List.map_nil]); first | done | rfl | (simp only [List.length_drop, List.length_take]; rfl)) ?_; (with_reducible refine (squintref08_some.calls a0_2 t188 _ A21.out).mono ?_); rintro e w' ⟨rfl, ⟨nd, rfl⟩⟩; refine ⟨_, rfl, ?_⟩))
                      go_ret
                      exact ⟨by first | rfl | (simp [errW_none, errW_some] <;> rfl) | (simp [*, errW_none, errW_some] <;> rfl), by repeat (first | (with_reducible first | exact HB.out | apply below_alloc | apply pw_below_drewN | apply below_drew1 | refine below_set ?_ GE186.out) | exact HB.out)⟩
                    · rw [if_neg c20] at H
                      have c20b0 : (a0_0 == 22) = false := beq_eq_false_iff_ne.mpr c20
                      have c20b1 : (a0_0 != 22) = true := bne_iff_ne.mpr c20
                      have HC23 := Aside0.mk H
                      clear H
                      go_upto_if 31 with (fail)
                      go_cut [31] (fun v31 wc => ∃ (kq : Nat) (x31_22 : Bool), v31 = .bool x31_22 ∧ Aside0 (squintref08_Pops.j3 kq a0_0 x31_22 a0_0 a0_1 a0_2 l0_3 = some r) ∧ Aside0 (kq ≤ kj14) ∧ Aside0 (wc.heap[gb186]? = some (.cells #[.int .i64 a0_0, .int .i64 a0_1, .int .i64 a0_2, (.slice A0_3 l0_3.length c0_3)] 28 (0, 0))) ∧ Aside0 (Below w.heap.size w wc))
                      case first =>
                        have H := HC23.out
                        clear HC23
                        by_cases c24 : a0_0 = 23
                        · rw [if_pos c24] at H
                          have c24b0 : (a0_0 == 23) = true := beq_iff_eq.mpr c24
                          have c24b1 : (a0_0 != 23) = false := bne_eq_false_iff_eq.mpr c24
                          clear c24
                          (first | rw [c24b0] | (simp only [i64_w, i32_w]; rw [c24b0]) | skip)
                          have H' := Aside0.mk H
                          clear H
                          go_wp2
                          go_meet
                          case rel => exact ⟨_, ((a0_0 == 23)), (by first | rfl | (simp; done) | (simp [*]; done)), H', ⟨by have := HJ1.out; have := HJ10.out; have := HJ14.out; first | omega | exact Nat.le_refl _⟩, ⟨by (with_reducible repeat (first | refine blk_drewN ?_ _ | refine blk_drew ?_ | refine blk_alloc ?_ _)); exact BK186.out⟩, ⟨by repeat (first | (with_reducible first | exact HB.out | apply below_alloc | apply pw_below_drewN | apply below_drew1 | refine below_set ?_ GE186.out) | exact HB.out)⟩⟩
                        · rw [if_neg c24] at H
                          have c24b0 : (a0_0 == 23) = false := beq_eq_false_iff_ne.mpr c24
                          have c24b1 : (a0_0 != 23) = true := bne_iff_ne.mpr c24
                          (first | rw [c24b0] | (simp only [i64_w, i32_w]; rw [c24b0]) | skip)
                          have H' := Aside0.mk H
                          clear H
                          go_wp2
                          go_meet
                          case rel => exact ⟨_, ((a0_0 == 24)), (by first | rfl | (simp; done) | (simp [*]; done)), H', ⟨by have := HJ1.out; have := HJ10.out; have := HJ14.out; first | omega | exact Nat.le_refl _⟩, ⟨by (with_reducible repeat (first | refine blk_drewN ?_ _ | refine blk_drew ?_ | refine blk_alloc ?_ _)); exact BK186.out⟩, ⟨by repeat (first | (with_reducible first | exact HB.out | apply below_alloc | apply pw_below_drewN | apply below_drew1 | refine below_set ?_ GE186.out) | exact HB.out)⟩⟩
                      case rest =>
                        clear HC23
                        try clear c1
                        try clear c2
                        try clear p2
                        try clear c3
                        try clear c5
                        try clear c5b0
                        try clear c5b1
                        try clear c6
                        try clear c6b0
                        try clear c6b1
                        try clear c7
                        try clear c7b0
                        try clear c7b1
                        try clear c8
                        try clear c8b0
                        try clear c8b1
                        try clear c9
                        try clear c9b0
                        try clear c9b1
                        try clear c10
                        try clear c12
                        try clear c12b0
                        try clear c12b1
                        try clear c13
                        try clear c13b0
                        try clear c13b1
                        try clear c14
                        try clear c16
                        try clear c16b0
                        try clear c16b1
                        try clear c17
                        try clear c20
                        try clear c20b0
                        try clear c20b1
                        try clear c24
                        try clear c24b0
                        try clear c24b1
                        try clear hcz19_0
                        try clear hcz19_1
                        try clear hcz19_2
                        try clear hcz19_3
                        try clear hcz22_0
                        try clear hcz22_1
                        try clear hcz22_2
                        try clear hcz22_3
                        try clear hcz4_0
                        try clear hcz4_1
                        try clear hcz4_2
                        try clear hcz4_3
                        try clear hfz19_0
                        try clear hfz19_1
                        try clear hfz19_2
                        try clear hfz19_3
                        try clear hfz22_0
                        try clear hfz22_1
                        try clear hfz22_2
                        try clear hfz22_3
                        try clear hfz4_0
                        try clear hfz4_1
                        try clear hfz4_2
                        try clear hfz4_3
                        try clear p2
                        obtain ⟨kq, x31_22, rfl, HA, HJ22, BK186, HB⟩ := hcut
                        cases kq with
                        | zero => exact absurd HA.out (by simp [squintref08_Pops.j3])
                        | succ kj22 =>
                          have H := HA.out
                          clear HA
                          simp only [squintref08_Pops.j3] at H
                          by_cases c25 : x31_22 = true
                          · subst c25
                            have H1 : (if a0_1 = 9223372036854775807 then (some a0_1) else ((squintref08_some.f a0_1).bind fun t189 => (some (wrap64 (t189 + 1))))) = some r := by rw [if_pos rfl] at H; exact H
                            clear H
                            have H := H1
                            clear H1
                            by_cases c26 : a0_1 = 9223372036854775807
                            · rw [if_pos c26] at H
                              have c26b0 : (a0_1 == 9223372036854775807) = true := beq_iff_eq.mpr c26
                              have c26b1 : (a0_1 != 9223372036854775807) = false := bne_eq_false_iff_eq.mpr c26
                              clear c26
                              obtain rfl := Option.some.inj H
                              have hcz27_0 : wc.cell? ⟨gb186, 0, none⟩ = some (.int .i64 a0_0) := (blk_cell BK186.out 0).trans rfl
                              have hcz27_1 : wc.cell? ⟨gb186, 1, none⟩ = some (.int .i64 a0_1) := (blk_cell BK186.out 1).trans rfl
                              have hcz27_2 : wc.cell? ⟨gb186, 2, none⟩ = some (.int .i64 a0_2) := (blk_cell BK186.out 2).trans rfl
                              have hcz27_3 : wc.cell? ⟨gb186, 3, none⟩ = some (.slice A0_3 l0_3.length c0_3) := (blk_cell BK186.out 3).trans rfl
                              have hfz27_0 := blk_frozen BK186.out 0
                              have hfz27_1 := blk_frozen BK186.out 1
                              have hfz27_2 := blk_frozen BK186.out 2
                              have hfz27_3 := blk_frozen BK186.out 3
                              go_wp2
                              go_ret
                              exact ⟨by first | rfl | (simp [errW_none, errW_some] <;> rfl) | (simp [*, errW_none, errW_some] <;> rfl), by repeat (first | (with_reducible first | exact HB.out | apply below_alloc | apply pw_below_drewN | apply below_drew1 | refine below_set ?_ GE186.out) | exact HB.out)⟩
                            · rw [if_neg c26] at H
                              have c26b0 : (a0_1 == 9223372036854775807) = false := beq_eq_false_iff_ne.mpr c26
                              have c26b1 : (a0_1 != 9223372036854775807) = true := bne_iff_ne.mpr c26
                              replace H := Option.bind_eq_some_iff.mp H
                              obtain ⟨t189, A280, H⟩ := H
                              replace H : (some (wrap64 (t189 + 1))) = some r := H
                              have A28 := Aside0.mk A280
                              clear A280
                              obtain rfl := Option.some.inj H
                              have hcz29_0 : wc.cell? ⟨gb186, 0, none⟩ = some (.int .i64 a0_0) := (blk_cell BK186.out 0).trans rfl
                              have hcz29_1 : wc.cell? ⟨gb186, 1, none⟩ = some (.int .i64 a0_1) := (blk_cell BK186.out 1).trans rfl
                              have hcz29_2 : wc.cell? ⟨gb186, 2, none⟩ = some (.int .i64 a0_2) := (blk_cell BK186.out 2).trans rfl
                              have hcz29_3 : wc.cell? ⟨gb186, 3, none⟩ = some (.slice A0_3 l0_3.length c0_3) := (blk_cell BK186.out 3).trans rfl
                              have hfz29_0 := blk_frozen BK186.out 0
                              have hfz29_1 := blk_frozen BK186.out 1
                              have hfz29_2 := blk_frozen BK186.out 2
                              have hfz29_3 := blk_frozen BK186.out 3
                              go_wp2_with (first | ((with_reducible refine gate_callee (f := 33) rfl ?_); refine goesL_ (some 41) rfl rfl Tryd.func33 (by kernel_rfl) rfl #[.int .i64 a0_1] rfl (by (try simp only [List.map_toArray, List.map_cons, List.map_nil]); first | done | rfl | (simp only [List.length_drop, List.length_take]; rfl)) ?_; (with_reducible refine (squintref08_some.calls a0_1 t189 _ A28.out).mono ?_); rintro e w' ⟨rfl, ⟨nd, rfl⟩⟩; refine ⟨_, rfl, ?_⟩))
                              go_ret
                              exact ⟨by first | rfl | (simp [errW_none, errW_some] <;> rfl) | (simp [*, errW_none, errW_some] <;> rfl), by repeat (first | (with_reducible first | exact HB.out | apply below_alloc | apply pw_below_drewN | apply below_drew1 | refine below_set ?_ GE186.out) | exact HB.out)⟩
                          · replace c25 := Bool.eq_false_iff.mpr c25
                            subst c25
                            have H1 : (if a0_0 = 16 then (squintref08_Pops.l0 kj22 1 0 a0_0 a0_1 a0_2 l0_3) else (if a0_0 = 27 then (squintref08_Pops.l1 kj22 0 0 a0_0 a0_1 a0_2 l0_3) else (some 0))) = some r := by rw [if_neg (show ¬ (false = true) by decide)] at H; exact H
                            clear H
                            have H := H1
                            clear H1
                            by_cases c30 : a0_0 = 16
                            · rw [if_pos c30] at H
                              have c30b0 : (a0_0 == 16) = true := beq_iff_eq.mpr c30
                              have c30b1 : (a0_0 != 16) = false := bne_eq_false_iff_eq.mpr c30
                              clear c30
                              have H' := Aside0.mk H
                              clear H
                              go_wp2
                              go_loopg [3, 4] kj22 (fun kq v3 v4 w' => ∃ (x3_5 : Int) (x4_5 : Int), v3 = .int .i64 x3_5 ∧ v4 = .int .i64 x4_5 ∧ Aside0 (squintref08_Pops.l0 kq x3_5 x4_5 a0_0 a0_1 a0_2 l0_3 = some r) ∧ Aside0 (kq ≤ kj22) ∧ Aside0 (w'.heap[gb186]? = some (.cells #[.int .i64 a0_0, .int .i64 a0_1, .int .i64 a0_2, (.slice A0_3 l0_3.length c0_3)] 28 (0, 0))) ∧ Aside0 (Below w.heap.size w w'))
                              case atStart => exact ⟨(1), (0), (by first | rfl | (simp; done) | (simp [*]; done)), (by first | rfl | (simp; done) | (simp [*]; done)), H', ⟨Nat.le_refl _⟩, ⟨by (with_reducible repeat (first | refine blk_drewN ?_ _ | refine blk_drew ?_ | refine blk_alloc ?_ _)); exact BK186.out⟩, ⟨by repeat (first | (with_reducible first | exact HB.out | apply below_alloc | apply pw_below_drewN | apply below_drew1 | refine below_set ?_ GE186.out) | exact HB.out)⟩⟩
                              case round =>
                                clear H'
                                try clear c1
                                try clear c2
                                try clear p2
                                try clear c3
                                try clear c5
                                try clear c5b0
                                try clear c5b1
                                try clear c6
                                try clear c6b0
                                try clear c6b1
                                try clear p6
                                try clear c7
                                try clear c7b0
                                try clear c7b1
                                try clear c8
                                try clear c8b0
                                try clear c8b1
                                try clear c9
                                try clear c9b0
                                try clear c9b1
                                try clear c10
                                try clear c12
                                try clear c12b0
                                try clear c12b1
                                try clear c13
                                try clear c13b0
                                try clear c13b1
                                try clear c14
                                try clear c16
                                try clear c16b0
                                try clear c16b1
                                try clear c17
                                try clear c20
                                try clear c20b0
                                try clear c20b1
                                try clear c24
                                try clear c24b0
                                try clear c24b1
                                try clear c25
                                try clear c26
                                try clear c26b0
                                try clear c26b1
                                try clear c30
                                try clear c30b0
                                try clear c30b1
                                try clear hcz19_0
                                try clear hcz19_1
                                try clear hcz19_2
                                try clear hcz19_3
                                try clear hcz22_0
                                try clear hcz22_1
                                try clear hcz22_2
                                try clear hcz22_3
                                try clear hcz27_0
                                try clear hcz27_1
                                try clear hcz27_2
                                try clear hcz27_3
                                try clear hcz29_0
                                try clear hcz29_1
                                try clear hcz29_2
                                try clear hcz29_3
                                try clear hcz4_0
                                try clear hcz4_1
                                try clear hcz4_2
                                try clear hcz4_3
                                try clear hfz19_0
                                try clear hfz19_1
                                try clear hfz19_2
                                try clear hfz19_3
                                try clear hfz22_0
                                try clear hfz22_1
                                try clear hfz22_2
                                try clear hfz22_3
                                try clear hfz27_0
                                try clear hfz27_1
                                try clear hfz27_2
                                try clear hfz27_3
                                try clear hfz29_0
                                try clear hfz29_1
                                try clear hfz29_2
                                try clear hfz29_3
                                try clear hfz4_0
                                try clear hfz4_1
                                try clear hfz4_2
                                try clear hfz4_3
                                try clear p2
                                obtain ⟨x3_5, x4_5, rfl, rfl, HA, HK5, BK186, HB⟩ := hrel
                                cases gk with
                                | zero => exact absurd HA.out (by simp [squintref08_Pops.l0])
                                | succ k5 =>
                                  have H := HA.out
                                  clear HA
                                  simp only [squintref08_Pops.l0] at H
                                  by_cases c31 : x4_5 < (l0_3.length : Int)
                                  · rw [if_pos c31] at H
                                    have c31b0 : decide (x4_5 < (l0_3.length : Int)) = true := decide_eq_true c31
                                    clear c31
                                    by_cases c32 : 0 ≤ x4_5
                                    · rw [if_pos c32] at H
                                      have c32b0 : decide (0 ≤ x4_5) = true := decide_eq_true c32
                                      clear c32
                                      by_cases c33 : (rd l0_3 x4_5) = (-1)
                                      · rw [if_pos c33] at H
                                        have c33b0 : ((rd l0_3 x4_5) == (-1)) = true := beq_iff_eq.mpr c33
                                        have c33b1 : ((rd l0_3 x4_5) != (-1)) = false := bne_eq_false_iff_eq.mpr c33
                                        clear c33
                                        have H' := Aside0.mk H
                                        clear H
                                        have hcz34_0 : wr.cell? ⟨gb186, 0, none⟩ = some (.int .i64 a0_0) := (blk_cell BK186.out 0).trans rfl
                                        have hcz34_1 : wr.cell? ⟨gb186, 1, none⟩ = some (.int .i64 a0_1) := (blk_cell BK186.out 1).trans rfl
                                        have hcz34_2 : wr.cell? ⟨gb186, 2, none⟩ = some (.int .i64 a0_2) := (blk_cell BK186.out 2).trans rfl
                                        have hcz34_3 : wr.cell? ⟨gb186, 3, none⟩ = some (.slice A0_3 l0_3.length c0_3) := (blk_cell BK186.out 3).trans rfl
                                        have hfz34_0 := blk_frozen BK186.out 0
                                        have hfz34_1 := blk_frozen BK186.out 1
                                        have hfz34_2 := blk_frozen BK186.out 2
                                        have hfz34_3 := blk_frozen BK186.out 3
                                        have p190 : 0 ≤ (x4_5 : Int) := of_decide_eq_true (by first | (with_reducible assumption) | assumption)
                                        have q190 : x4_5 < (l0_3.length : Int) := of_decide_eq_true (by first | (with_reducible assumption) | assumption)
                                        obtain ⟨ad190, e190, hx190_0⟩ := Kd.at_int HR0_3.out x4_5 p190 q190
                                        cases e190
                                        replace hx190_0 := (HB.out.cell (World.block_lt_of_cell? w _ hx190_0)).trans hx190_0
                                        replace p190 := eq_true p190
                                        replace q190 := eq_true q190
                                        go_wp2
                                        go_roundg k5
                                        case measure => have := HJ1.out; have := HJ10.out; have := HJ14.out; have := HJ22.out; have := HK5.out; omega
                                        case rel => exact ⟨(wrap64 (x3_5 + 1)), (wrap64 (x4_5 + 1)), (by first | rfl | (simp; done) | (simp [*]; done)), (by first | rfl | (simp; done) | (simp [*]; done)), H', ⟨by have := HJ1.out; have := HJ10.out; have := HJ14.out; have := HJ22.out; have := HK5.out; omega⟩, ⟨by (with_reducible repeat (first | refine blk_drewN ?_ _ | refine blk_drew ?_ | refine blk_alloc ?_ _)); exact BK186.out⟩, ⟨by repeat (first | (with_reducible first | exact HB.out | apply below_alloc | apply pw_below_drewN | apply below_drew1 | refine below_set ?_ GE186.out) | exact HB.out)⟩⟩
                                      · rw [if_neg c33] at H
                                        have c33b0 : ((rd l0_3 x4_5) == (-1)) = false := beq_eq_false_iff_ne.mpr c33
                                        have c33b1 : ((rd l0_3 x4_5) != (-1)) = true := bne_iff_ne.mpr c33
                                        have H' := Aside0.mk H
                                        clear H
                                        have hcz35_0 : wr.cell? ⟨gb186, 0, none⟩ = some (.int .i64 a0_0) := (blk_cell BK186.out 0).trans rfl
                                        have hcz35_1 : wr.cell? ⟨gb186, 1, none⟩ = some (.int .i64 a0_1) := (blk_cell BK186.out 1).trans rfl
                                        have hcz35_2 : wr.cell? ⟨gb186, 2, none⟩ = some (.int .i64 a0_2) := (blk_cell BK186.out 2).trans rfl
                                        have hcz35_3 : wr.cell? ⟨gb186, 3, none⟩ = some (.slice A0_3 l0_3.length c0_3) := (blk_cell BK186.out 3).trans rfl
                                        have hfz35_0 := blk_frozen BK186.out 0
                                        have hfz35_1 := blk_frozen BK186.out 1
                                        have hfz35_2 := blk_frozen BK186.out 2
                                        have hfz35_3 := blk_frozen BK186.out 3
                                        have p190 : 0 ≤ (x4_5 : Int) := of_decide_eq_true (by first | (with_reducible assumption) | assumption)
                                        have q190 : x4_5 < (l0_3.length : Int) := of_decide_eq_true (by first | (with_reducible assumption) | assumption)
                                        obtain ⟨ad190, e190, hx190_0⟩ := Kd.at_int HR0_3.out x4_5 p190 q190
                                        cases e190
                                        replace hx190_0 := (HB.out.cell (World.block_lt_of_cell? w _ hx190_0)).trans hx190_0
                                        replace p190 := eq_true p190
                                        replace q190 := eq_true q190
                                        go_wp2
                                        go_roundg k5
                                        case measure => have := HJ1.out; have := HJ10.out; have := HJ14.out; have := HJ22.out; have := HK5.out; omega
                                        case rel => exact ⟨(x3_5), (wrap64 (x4_5 + 1)), (by first | rfl | (simp; done) | (simp [*]; done)), (by first | rfl | (simp; done) | (simp [*]; done)), H', ⟨by have := HJ1.out; have := HJ10.out; have := HJ14.out; have := HJ22.out; have := HK5.out; omega⟩, ⟨by (with_reducible repeat (first | refine blk_drewN ?_ _ | refine blk_drew ?_ | refine blk_alloc ?_ _)); exact BK186.out⟩, ⟨by repeat (first | (with_reducible first | exact HB.out | apply below_alloc | apply pw_below_drewN | apply below_drew1 | refine below_set ?_ GE186.out) | exact HB.out)⟩⟩
                                    · rw [if_neg c32] at H
                                      exact absurd H (by simp)
                                  · rw [if_neg c31] at H
                                    have c31b0 : decide (x4_5 < (l0_3.length : Int)) = false := decide_eq_false c31
                                    clear c31
                                    obtain rfl := Option.some.inj H
                                    have hcz36_0 : wr.cell? ⟨gb186, 0, none⟩ = some (.int .i64 a0_0) := (blk_cell BK186.out 0).trans rfl
                                    have hcz36_1 : wr.cell? ⟨gb186, 1, none⟩ = some (.int .i64 a0_1) := (blk_cell BK186.out 1).trans rfl
                                    have hcz36_2 : wr.cell? ⟨gb186, 2, none⟩ = some (.int .i64 a0_2) := (blk_cell BK186.out 2).trans rfl
                                    have hcz36_3 : wr.cell? ⟨gb186, 3, none⟩ = some (.slice A0_3 l0_3.length c0_3) := (blk_cell BK186.out 3).trans rfl
                                    have hfz36_0 := blk_frozen BK186.out 0
                                    have hfz36_1 := blk_frozen BK186.out 1
                                    have hfz36_2 := blk_frozen BK186.out 2
                                    have hfz36_3 := blk_frozen BK186.out 3
                                    go_wp2
                                    go_ret
                                    exact ⟨by first | rfl | (simp [errW_none, errW_some] <;> rfl) | (simp [*, errW_none, errW_some] <;> rfl), by repeat (first | (with_reducible first | exact HB.out | apply below_alloc | apply pw_below_drewN | apply below_drew1 | refine below_set ?_ GE186.out) | exact HB.out)⟩
                            · rw [if_neg c30] at H
                              have c30b0 : (a0_0 == 16) = false := beq_eq_false_iff_ne.mpr c30
                              have c30b1 : (a0_0 != 16) = true := bne_iff_ne.mpr c30
                              by_cases c37 : a0_0 = 27
                              · rw [if_pos c37] at H
                                have c37b0 : (a0_0 == 27) = true := beq_iff_eq.mpr c37
                                have c37b1 : (a0_0 != 27) = false := bne_eq_false_iff_eq.mpr c37
                                clear c37
                                have H' := Aside0.mk H
                                clear H
                                go_wp2
                                go_loopg [5, 6] kj22 (fun kq v5 v6 w' => ∃ (x5_5 : Int) (x6_5 : Int), v5 = .int .i64 x5_5 ∧ v6 = .int .i64 x6_5 ∧ Aside0 (squintref08_Pops.l1 kq x5_5 x6_5 a0_0 a0_1 a0_2 l0_3 = some r) ∧ Aside0 (kq ≤ kj22) ∧ Aside0 (w'.heap[gb186]? = some (.cells #[.int .i64 a0_0, .int .i64 a0_1, .int .i64 a0_2, (.slice A0_3 l0_3.length c0_3)] 28 (0, 0))) ∧ Aside0 (Below w.heap.size w w'))
                                case atStart => exact ⟨(0), (0), (by first | rfl | (simp; done) | (simp [*]; done)), (by first | rfl | (simp; done) | (simp [*]; done)), H', ⟨Nat.le_refl _⟩, ⟨by (with_reducible repeat (first | refine blk_drewN ?_ _ | refine blk_drew ?_ | refine blk_alloc ?_ _)); exact BK186.out⟩, ⟨by repeat (first | (with_reducible first | exact HB.out | apply below_alloc | apply pw_below_drewN | apply below_drew1 | refine below_set ?_ GE186.out) | exact HB.out)⟩⟩
                                case round =>
                                  clear H'
                                  try clear c1
                                  try clear p1
                                  try clear q1
                                  try clear hx1
                                  try clear c2
                                  try clear p2
                                  try clear c3
                                  try clear c5
                                  try clear c5b0
                                  try clear c5b1
                                  try clear c6
                                  try clear c6b0
                                  try clear c6b1
                                  try clear p6
                                  try clear c7
                                  try clear c7b0
                                  try clear c7b1
                                  try clear c8
                                  try clear c8b0
                                  try clear c8b1
                                  try clear c9
                                  try clear c9b0
                                  try clear c9b1
                                  try clear c10
                                  try clear c12
                                  try clear c12b0
                                  try clear c12b1
                                  try clear c13
                                  try clear c13b0
                                  try clear c13b1
                                  try clear c14
                                  try clear c16
                                  try clear c16b0
                                  try clear c16b1
                                  try clear c17
                                  try clear p19
                                  try clear q19
                                  try clear hx19
                                  try clear c20
                                  try clear c20b0
                                  try clear c20b1
                                  try clear c24
                                  try clear c24b0
                                  try clear c24b1
                                  try clear c25
                                  try clear c26
                                  try clear c26b0
                                  try clear c26b1
                                  try clear c30
                                  try clear c30b0
                                  try clear c30b1
                                  try clear c31
                                  try clear c31b0
                                  try clear c32
                                  try clear c32b0
                                  try clear c33
                                  try clear c33b0
                                  try clear c33b1
                                  try clear c37
                                  try clear c37b0
                                  try clear c37b1
                                  try clear hcz19_0
                                  try clear hcz19_1
                                  try clear hcz19_2
                                  try clear hcz19_3
                                  try clear hcz22_0
                                  try clear hcz22_1
                                  try clear hcz22_2
                                  try clear hcz22_3
                                  try clear hcz27_0
                                  try clear hcz27_1
                                  try clear hcz27_2
                                  try clear hcz27_3
                                  try clear hcz29_0
                                  try clear hcz29_1
                                  try clear hcz29_2
                                  try clear hcz29_3
                                  try clear hcz34_0
                                  try clear hcz34_1
                                  try clear hcz34_2
                                  try clear hcz34_3
                                  try clear hcz35_0
                                  try clear hcz35_1
                                  try clear hcz35_2
                                  try clear hcz35_3
                                  try clear hcz36_0
                                  try clear hcz36_1
                                  try clear hcz36_2
                                  try clear hcz36_3
                                  try clear hcz4_0
                                  try clear hcz4_1
                                  try clear hcz4_2
                                  try clear hcz4_3
                                  try clear hfz19_0
                                  try clear hfz19_1
                                  try clear hfz19_2
                                  try clear hfz19_3
                                  try clear hfz22_0
                                  try clear hfz22_1
                                  try clear hfz22_2
                                  try clear hfz22_3
                                  try clear hfz27_0
                                  try clear hfz27_1
                                  try clear hfz27_2
                                  try clear hfz27_3
                                  try clear hfz29_0
                                  try clear hfz29_1
                                  try clear hfz29_2
                                  try clear hfz29_3
                                  try clear hfz34_0
                                  try clear hfz34_1
                                  try clear hfz34_2
                                  try clear hfz34_3
                                  try clear hfz35_0
                                  try clear hfz35_1
                                  try clear hfz35_2
                                  try clear hfz35_3
                                  try clear hfz36_0
                                  try clear hfz36_1
                                  try clear hfz36_2
                                  try clear hfz36_3
                                  try clear hfz4_0
                                  try clear hfz4_1
                                  try clear hfz4_2
                                  try clear hfz4_3
                                  try clear hx190_0
                                  try clear p190
                                  try clear p2
                                  try clear p6
                                  try clear q190
                                  obtain ⟨x5_5, x6_5, rfl, rfl, HA, HK5, BK186, HB⟩ := hrel
                                  cases gk with
                                  | zero => exact absurd HA.out (by simp [squintref08_Pops.l1])
                                  | succ k5 =>
                                    have H := HA.out
                                    clear HA
                                    simp only [squintref08_Pops.l1] at H
                                    by_cases c38 : x6_5 < (l0_3.length : Int)
                                    · rw [if_pos c38] at H
                                      have c38b0 : decide (x6_5 < (l0_3.length : Int)) = true := decide_eq_true c38
                                      clear c38
                                      by_cases c39 : 0 ≤ x6_5
                                      · rw [if_pos c39] at H
                                        have c39b0 : decide (0 ≤ x6_5) = true := decide_eq_true c39
                                        clear c39
                                        by_cases c40 : (rd l0_3 x6_5) = 1
                                        · rw [if_pos c40] at H
                                          have c40b0 : ((rd l0_3 x6_5) == 1) = true := beq_iff_eq.mpr c40
                                          have c40b1 : ((rd l0_3 x6_5) != 1) = false := bne_eq_false_iff_eq.mpr c40
                                          clear c40
                                          have H' := Aside0.mk H
                                          clear H
                                          have hcz41_0 : wr.cell? ⟨gb186, 0, none⟩ = some (.int .i64 a0_0) := (blk_cell BK186.out 0).trans rfl
                                          have hcz41_1 : wr.cell? ⟨gb186, 1, none⟩ = some (.int .i64 a0_1) := (blk_cell BK186.out 1).trans rfl
                                          have hcz41_2 : wr.cell? ⟨gb186, 2, none⟩ = some (.int .i64 a0_2) := (blk_cell BK186.out 2).trans rfl
                                          have hcz41_3 : wr.cell? ⟨gb186, 3, none⟩ = some (.slice A0_3 l0_3.length c0_3) := (blk_cell BK186.out 3).trans rfl
                                          have hfz41_0 := blk_frozen BK186.out 0
                                          have hfz41_1 := blk_frozen BK186.out 1
                                          have hfz41_2 := blk_frozen BK186.out 2
                                          have hfz41_3 := blk_frozen BK186.out 3
                                          have p191 : 0 ≤ (x6_5 : Int) := of_decide_eq_true (by first | (with_reducible assumption) | assumption)
                                          have q191 : x6_5 < (l0_3.length : Int) := of_decide_eq_true (by first | (with_reducible assumption) | assumption)
                                          obtain ⟨ad191, e191, hx191_0⟩ := Kd.at_int HR0_3.out x6_5 p191 q191
                                          cases e191
                                          replace hx191_0 := (HB.out.cell (World.block_lt_of_cell? w _ hx191_0)).trans hx191_0
                                          replace p191 := eq_true p191
                                          replace q191 := eq_true q191
                                          go_wp2
                                          go_roundg k5
                                          case measure => have := HJ1.out; have := HJ10.out; have := HJ14.out; have := HJ22.out; have := HK5.out; omega
                                          case rel => exact ⟨(wrap64 ((wrap64 (x5_5 + 1)) + 1)), (wrap64 (x6_5 + 2)), (by first | rfl | (simp; done) | (simp [*]; done)), (by first | rfl | (simp; done) | (simp [*]; done)), H', ⟨by have := HJ1.out; have := HJ10.out; have := HJ14.out; have := HJ22.out; have := HK5.out; omega⟩, ⟨by (with_reducible repeat (first | refine blk_drewN ?_ _ | refine blk_drew ?_ | refine blk_alloc ?_ _)); exact BK186.out⟩, ⟨by repeat (first | (with_reducible first | exact HB.out | apply below_alloc | apply pw_below_drewN | apply below_drew1 | refine below_set ?_ GE186.out) | exact HB.out)⟩⟩
                                        · rw [if_neg c40] at H
                                          have c40b0 : ((rd l0_3 x6_5) == 1) = false := beq_eq_false_iff_ne.mpr c40
                                          have c40b1 : ((rd l0_3 x6_5) != 1) = true := bne_iff_ne.mpr c40
                                          have H' := Aside0.mk H
                                          clear H
                                          have hcz42_0 : wr.cell? ⟨gb186, 0, none⟩ = some (.int .i64 a0_0) := (blk_cell BK186.out 0).trans rfl
                                          have hcz42_1 : wr.cell? ⟨gb186, 1, none⟩ = some (.int .i64 a0_1) := (blk_cell BK186.out 1).trans rfl
                                          have hcz42_2 : wr.cell? ⟨gb186, 2, none⟩ = some (.int .i64 a0_2) := (blk_cell BK186.out 2).trans rfl
                                          have hcz42_3 : wr.cell? ⟨gb186, 3, none⟩ = some (.slice A0_3 l0_3.length c0_3) := (blk_cell BK186.out 3).trans rfl
                                          have hfz42_0 := blk_frozen BK186.out 0
                                          have hfz42_1 := blk_frozen BK186.out 1
                                          have hfz42_2 := blk_frozen BK186.out 2
                                          have hfz42_3 := blk_frozen BK186.out 3
                                          have p191 : 0 ≤ (x6_5 : Int) := of_decide_eq_true (by first | (with_reducible assumption) | assumption)
                                          have q191 : x6_5 < (l0_3.length : Int) := of_decide_eq_true (by first | (with_reducible assumption) | assumption)
                                          obtain ⟨ad191, e191, hx191_0⟩ := Kd.at_int HR0_3.out x6_5 p191 q191
                                          cases e191
                                          replace hx191_0 := (HB.out.cell (World.block_lt_of_cell? w _ hx191_0)).trans hx191_0
                                          replace p191 := eq_true p191
                                          replace q191 := eq_true q191
                                          go_wp2
                                          go_roundg k5
                                          case measure => have := HJ1.out; have := HJ10.out; have := HJ14.out; have := HJ22.out; have := HK5.out; omega
                                          case rel => exact ⟨(wrap64 (x5_5 + 1)), (wrap64 (x6_5 + 2)), (by first | rfl | (simp; done) | (simp [*]; done)), (by first | rfl | (simp; done) | (simp [*]; done)), H', ⟨by have := HJ1.out; have := HJ10.out; have := HJ14.out; have := HJ22.out; have := HK5.out; omega⟩, ⟨by (with_reducible repeat (first | refine blk_drewN ?_ _ | refine blk_drew ?_ | refine blk_alloc ?_ _)); exact BK186.out⟩, ⟨by repeat (first | (with_reducible first | exact HB.out | apply below_alloc | apply pw_below_drewN | apply below_drew1 | refine below_set ?_ GE186.out) | exact HB.out)⟩⟩
                                      · rw [if_neg c39] at H
                                        exact absurd H (by simp)
                                    · rw [if_neg c38] at H
                                      have c38b0 : decide (x6_5 < (l0_3.length : Int)) = false := decide_eq_false c38
                                      clear c38
                                      obtain rfl := Option.some.inj H
                                      have hcz43_0 : wr.cell? ⟨gb186, 0, none⟩ = some (.int .i64 a0_0) := (blk_cell BK186.out 0).trans rfl
                                      have hcz43_1 : wr.cell? ⟨gb186, 1, none⟩ = some (.int .i64 a0_1) := (blk_cell BK186.out 1).trans rfl
                                      have hcz43_2 : wr.cell? ⟨gb186, 2, none⟩ = some (.int .i64 a0_2) := (blk_cell BK186.out 2).trans rfl
                                      have hcz43_3 : wr.cell? ⟨gb186, 3, none⟩ = some (.slice A0_3 l0_3.length c0_3) := (blk_cell BK186.out 3).trans rfl
                                      have hfz43_0 := blk_frozen BK186.out 0
                                      have hfz43_1 := blk_frozen BK186.out 1
                                      have hfz43_2 := blk_frozen BK186.out 2
                                      have hfz43_3 := blk_frozen BK186.out 3
                                      go_wp2
                                      go_ret
                                      exact ⟨by first | rfl | (simp [errW_none, errW_some] <;> rfl) | (simp [*, errW_none, errW_some] <;> rfl), by repeat (first | (with_reducible first | exact HB.out | apply below_alloc | apply pw_below_drewN | apply below_drew1 | refine below_set ?_ GE186.out) | exact HB.out)⟩
                              · rw [if_neg c37] at H
                                have c37b0 : (a0_0 == 27) = false := beq_eq_false_iff_ne.mpr c37
                                have c37b1 : (a0_0 != 27) = true := bne_iff_ne.mpr c37
                                obtain rfl := Option.some.inj H
                                go_wp2
                                go_ret
                                exact ⟨by first | rfl | (simp [errW_none, errW_some] <;> rfl) | (simp [*, errW_none, errW_some] <;> rfl), by repeat (first | (with_reducible first | exact HB.out | apply below_alloc | apply pw_below_drewN | apply below_drew1 | refine below_set ?_ GE186.out) | exact HB.out)⟩

end Go.Proofs.YtfkfgjmhcfagkaaDoor.Print
