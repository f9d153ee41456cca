-- Laid by a program of this session (hybrid.py) over the kit's print.
import Derived.Test.YtfkfgjmhcfagkaaDoorPrint0
namespace Go.Proofs.YtfkfgjmhcfagkaaDoor.Print
open Go.RowKit
open Go.RowKit Go.Proofs.YtfkfgjmhcfagkaaDoorW.PrintWords Go.Proofs.YtfkfgjmhcfagkaaDoorW.PrintLast Go.Proofs.YtfkfgjmhcfagkaaDoorW.PrintMore
attribute [local go_sem] max2_int min2_int max_two min_two max_three min_three max_four min_four   -- for this text's walks alone
set_option linter.unusedVariables false
set_option linter.unusedSimpArgs false

/-! ### code_Pops: function 15 -/
mutual
def code_Pops.j0 : Nat → Int → Int → Int → Bool → Int → Int → Int → List Int → Option (Int)
  | 0, _, _, _, _, _, _, _, _ => none
  | k + 1, x3, x4, x12, x13, x102000, x102001, x102002, x102003 => if x13 = true then (some 1) else (if x12 = 12 then (code_Pops.j1 k x3 x4 x12 (x12 == 12) x102000 x102001 x102002 x102003) else (if x12 = 14 then (code_Pops.j1 k x3 x4 x12 (x12 == 14) x102000 x102001 x102002 x102003) else (code_Pops.j1 k x3 x4 x12 (x12 == 18) x102000 x102001 x102002 x102003)))
def code_Pops.j1 : Nat → Int → Int → Int → Bool → Int → Int → Int → List Int → Option (Int)
  | 0, _, _, _, _, _, _, _, _ => none
  | k + 1, x3, x4, x12, x20, x102000, x102001, x102002, x102003 => if x20 = true then (some 2) else (if x12 = 10 then (code_Pops.j2 k x3 x4 x12 (x12 == 10) x102000 x102001 x102002 x102003) else (code_Pops.j2 k x3 x4 x12 (x12 == 11) x102000 x102001 x102002 x102003))
def code_Pops.j2 : Nat → Int → Int → Int → Bool → Int → Int → Int → List Int → Option (Int)
  | 0, _, _, _, _, _, _, _, _ => none
  | k + 1, x3, x4, x12, x24, x102000, x102001, x102002, x102003 => if x24 = true then (some x3) else (if x12 = 23 then (code_Pops.j3 k x3 x4 x12 (x12 == 23) x102000 x102001 x102002 x102003) else (code_Pops.j3 k x3 x4 x12 (x12 == 24) x102000 x102001 x102002 x102003))
def code_Pops.j3 : Nat → Int → Int → Int → Bool → Int → Int → Int → List Int → Option (Int)
  | 0, _, _, _, _, _, _, _, _ => none
  | k + 1, x3, x4, x12, x28, x102000, x102001, x102002, x102003 => if x28 = true then (some (wrap64 ((mn x3 9223372036854775806) + 1))) else (if x12 = 22 then (some (mx x102002 0)) else (if x12 = 16 then (code_Pops.l0 k 1 x102003 (x102003.length : Int) 0) else (if x12 = 27 then (code_Pops.l1 k x4 0 x102000 x102001 x102002 x102003) else (some x4))))
def code_Pops.l0 : Nat → Int → List Int → Int → Int → Option (Int)
  | 0, _, _, _, _ => none
  | k + 1, x4, x42, x43, x44 => if x44 < x43 then (if 0 ≤ x44 then (if x44 < (x42.length : Int) then (if (rd x42 x44) = (-1) then (code_Pops.l0 k (wrap64 (x4 + 1)) x42 x43 (wrap64 (x44 + 1))) else (code_Pops.l0 k x4 x42 x43 (wrap64 (x44 + 1)))) else (none)) else (none)) else (some x4)
def code_Pops.l1 : Nat → Int → Int → Int → Int → Int → List Int → Option (Int)
  | 0, _, _, _, _, _, _ => none
  | k + 1, x4, x7, x102000, x102001, x102002, x102003 => if x7 < (x102003.length : Int) then (if 0 ≤ x7 then (if (rd x102003 x7) = 1 then (code_Pops.l1 k (wrap64 ((wrap64 (x4 + 1)) + 1)) (wrap64 (x7 + 2)) x102000 x102001 x102002 x102003) else (code_Pops.l1 k (wrap64 (x4 + 1)) (wrap64 (x7 + 2)) x102000 x102001 x102002 x102003)) else (none)) else (some x4)
end
def code_Pops.f (k : Nat) (a0_0 : Int) (a0_1 : Int) (a0_2 : Int) (l0_3 : List Int) : Option (Int) := if a0_0 = 5 then (code_Pops.j0 k (mx a0_1 0) 0 a0_0 (a0_0 == 5) a0_0 a0_1 a0_2 l0_3) else (if a0_0 = 9 then (code_Pops.j0 k (mx a0_1 0) 0 a0_0 (a0_0 == 9) a0_0 a0_1 a0_2 l0_3) else (if a0_0 = 13 then (code_Pops.j0 k (mx a0_1 0) 0 a0_0 (a0_0 == 13) a0_0 a0_1 a0_2 l0_3) else (if a0_0 = 15 then (code_Pops.j0 k (mx a0_1 0) 0 a0_0 (a0_0 == 15) a0_0 a0_1 a0_2 l0_3) else (if a0_0 = 17 then (code_Pops.j0 k (mx a0_1 0) 0 a0_0 (a0_0 == 17) a0_0 a0_1 a0_2 l0_3) else (code_Pops.j0 k (mx a0_1 0) 0 a0_0 (a0_0 == 20) a0_0 a0_1 a0_2 l0_3)))))
theorem code_Pops.mono_l : ∀ k, (∀ y0 y1 y2 y3 y4 y5 y6 y7, LeO (code_Pops.j0 k y0 y1 y2 y3 y4 y5 y6 y7) (code_Pops.j0 (k + 1) y0 y1 y2 y3 y4 y5 y6 y7)) ∧ (∀ y0 y1 y2 y3 y4 y5 y6 y7, LeO (code_Pops.j1 k y0 y1 y2 y3 y4 y5 y6 y7) (code_Pops.j1 (k + 1) y0 y1 y2 y3 y4 y5 y6 y7)) ∧ (∀ y0 y1 y2 y3 y4 y5 y6 y7, LeO (code_Pops.j2 k y0 y1 y2 y3 y4 y5 y6 y7) (code_Pops.j2 (k + 1) y0 y1 y2 y3 y4 y5 y6 y7)) ∧ (∀ y0 y1 y2 y3 y4 y5 y6 y7, LeO (code_Pops.j3 k y0 y1 y2 y3 y4 y5 y6 y7) (code_Pops.j3 (k + 1) y0 y1 y2 y3 y4 y5 y6 y7)) ∧ (∀ y0 y1 y2 y3, LeO (code_Pops.l0 k y0 y1 y2 y3) (code_Pops.l0 (k + 1) y0 y1 y2 y3)) ∧ (∀ y0 y1 y2 y3 y4 y5, LeO (code_Pops.l1 k y0 y1 y2 y3 y4 y5) (code_Pops.l1 (k + 1) y0 y1 y2 y3 y4 y5))
  | 0 => ⟨fun _ _ _ _ _ _ _ _ r h => by simp [code_Pops.j0] at h, fun _ _ _ _ _ _ _ _ r h => by simp [code_Pops.j1] at h, fun _ _ _ _ _ _ _ _ r h => by simp [code_Pops.j2] at h, fun _ _ _ _ _ _ _ _ r h => by simp [code_Pops.j3] at h, fun _ _ _ _ r h => by simp [code_Pops.l0] at h, fun _ _ _ _ _ _ r h => by simp [code_Pops.l1] at h⟩
  | k + 1 => by
    obtain ⟨ih0, ih1, ih2, ih3, ih4, ih5⟩ := code_Pops.mono_l k
    refine ⟨?_, ?_, ?_, ?_, ?_, ?_⟩
    · intro y0 y1 y2 y3 y4 y5 y6 y7
      unfold code_Pops.j0
      repeat' first
      | (with_reducible exact ih0 _ _ _ _ _ _ _ _)
      | (with_reducible exact ih1 _ _ _ _ _ _ _ _)
      | (with_reducible exact ih2 _ _ _ _ _ _ _ _)
      | (with_reducible exact ih3 _ _ _ _ _ _ _ _)
      | (with_reducible exact ih4 _ _ _ _)
      | (with_reducible exact ih5 _ _ _ _ _ _)
      | (with_reducible exact LeO.refl _)
      | (with_reducible exact LeO.none _)
      | (with_reducible refine LeO.ite ?_ ?_)
      | (with_reducible refine LeO.bind ?_ (fun _ => ?_))
      | exact ih0 _ _ _ _ _ _ _ _
      | exact ih1 _ _ _ _ _ _ _ _
      | exact ih2 _ _ _ _ _ _ _ _
      | exact ih3 _ _ _ _ _ _ _ _
      | exact ih4 _ _ _ _
      | exact ih5 _ _ _ _ _ _
      | exact LeO.none _
      | refine LeO.ite ?_ ?_
      | refine LeO.bind ?_ (fun _ => ?_)
    · intro y0 y1 y2 y3 y4 y5 y6 y7
      unfold code_Pops.j1
      repeat' first
      | (with_reducible exact ih0 _ _ _ _ _ _ _ _)
      | (with_reducible exact ih1 _ _ _ _ _ _ _ _)
      | (with_reducible exact ih2 _ _ _ _ _ _ _ _)
      | (with_reducible exact ih3 _ _ _ _ _ _ _ _)
      | (with_reducible exact ih4 _ _ _ _)
      | (with_reducible exact ih5 _ _ _ _ _ _)
      | (with_reducible exact LeO.refl _)
      | (with_reducible exact LeO.none _)
      | (with_reducible refine LeO.ite ?_ ?_)
      | (with_reducible refine LeO.bind ?_ (fun _ => ?_))
      | exact ih0 _ _ _ _ _ _ _ _
      | exact ih1 _ _ _ _ _ _ _ _
      | exact ih2 _ _ _ _ _ _ _ _
      | exact ih3 _ _ _ _ _ _ _ _
      | exact ih4 _ _ _ _
      | exact ih5 _ _ _ _ _ _
      | exact LeO.none _
      | refine LeO.ite ?_ ?_
      | refine LeO.bind ?_ (fun _ => ?_)
    · intro y0 y1 y2 y3 y4 y5 y6 y7
      unfold code_Pops.j2
      repeat' first
      | (with_reducible exact ih0 _ _ _ _ _ _ _ _)
      | (with_reducible exact ih1 _ _ _ _ _ _ _ _)
      | (with_reducible exact ih2 _ _ _ _ _ _ _ _)
      | (with_reducible exact ih3 _ _ _ _ _ _ _ _)
      | (with_reducible exact ih4 _ _ _ _)
      | (with_reducible exact ih5 _ _ _ _ _ _)
      | (with_reducible exact LeO.refl _)
      | (with_reducible exact LeO.none _)
      | (with_reducible refine LeO.ite ?_ ?_)
      | (with_reducible refine LeO.bind ?_ (fun _ => ?_))
      | exact ih0 _ _ _ _ _ _ _ _
      | exact ih1 _ _ _ _ _ _ _ _
      | exact ih2 _ _ _ _ _ _ _ _
      | exact ih3 _ _ _ _ _ _ _ _
      | exact ih4 _ _ _ _
      | exact ih5 _ _ _ _ _ _
      | exact LeO.none _
      | refine LeO.ite ?_ ?_
      | refine LeO.bind ?_ (fun _ => ?_)
    · intro y0 y1 y2 y3 y4 y5 y6 y7
      unfold code_Pops.j3
      repeat' first
      | (with_reducible exact ih0 _ _ _ _ _ _ _ _)
      | (with_reducible exact ih1 _ _ _ _ _ _ _ _)
      | (with_reducible exact ih2 _ _ _ _ _ _ _ _)
      | (with_reducible exact ih3 _ _ _ _ _ _ _ _)
      | (with_reducible exact ih4 _ _ _ _)
      | (with_reducible exact ih5 _ _ _ _ _ _)
      | (with_reducible exact LeO.refl _)
      | (with_reducible exact LeO.none _)
      | (with_reducible refine LeO.ite ?_ ?_)
      | (with_reducible refine LeO.bind ?_ (fun _ => ?_))
      | exact ih0 _ _ _ _ _ _ _ _
      | exact ih1 _ _ _ _ _ _ _ _
      | exact ih2 _ _ _ _ _ _ _ _
      | exact ih3 _ _ _ _ _ _ _ _
      | exact ih4 _ _ _ _
      | exact ih5 _ _ _ _ _ _
      | exact LeO.none _
      | refine LeO.ite ?_ ?_
      | refine LeO.bind ?_ (fun _ => ?_)
    · intro y0 y1 y2 y3
      unfold code_Pops.l0
      repeat' first
      | (with_reducible exact ih0 _ _ _ _ _ _ _ _)
      | (with_reducible exact ih1 _ _ _ _ _ _ _ _)
      | (with_reducible exact ih2 _ _ _ _ _ _ _ _)
      | (with_reducible exact ih3 _ _ _ _ _ _ _ _)
      | (with_reducible exact ih4 _ _ _ _)
      | (with_reducible exact ih5 _ _ _ _ _ _)
      | (with_reducible exact LeO.refl _)
      | (with_reducible exact LeO.none _)
      | (with_reducible refine LeO.ite ?_ ?_)
      | (with_reducible refine LeO.bind ?_ (fun _ => ?_))
      | exact ih0 _ _ _ _ _ _ _ _
      | exact ih1 _ _ _ _ _ _ _ _
      | exact ih2 _ _ _ _ _ _ _ _
      | exact ih3 _ _ _ _ _ _ _ _
      | exact ih4 _ _ _ _
      | exact ih5 _ _ _ _ _ _
      | exact LeO.none _
      | refine LeO.ite ?_ ?_
      | refine LeO.bind ?_ (fun _ => ?_)
    · intro y0 y1 y2 y3 y4 y5
      unfold code_Pops.l1
      repeat' first
      | (with_reducible exact ih0 _ _ _ _ _ _ _ _)
      | (with_reducible exact ih1 _ _ _ _ _ _ _ _)
      | (with_reducible exact ih2 _ _ _ _ _ _ _ _)
      | (with_reducible exact ih3 _ _ _ _ _ _ _ _)
      | (with_reducible exact ih4 _ _ _ _)
      | (with_reducible exact ih5 _ _ _ _ _ _)
      | (with_reducible exact LeO.refl _)
      | (with_reducible exact LeO.none _)
      | (with_reducible refine LeO.ite ?_ ?_)
      | (with_reducible refine LeO.bind ?_ (fun _ => ?_))
      | exact ih0 _ _ _ _ _ _ _ _
      | exact ih1 _ _ _ _ _ _ _ _
      | exact ih2 _ _ _ _ _ _ _ _
      | exact ih3 _ _ _ _ _ _ _ _
      | exact ih4 _ _ _ _
      | exact ih5 _ _ _ _ _ _
      | exact LeO.none _
      | refine LeO.ite ?_ ?_
      | refine LeO.bind ?_ (fun _ => ?_)
theorem code_Pops.mono : ∀ a0 a1 a2 a3 k, LeO (code_Pops.f k a0 a1 a2 a3) (code_Pops.f (k + 1) a0 a1 a2 a3) := by
  intro a0 a1 a2 a3 k
  obtain ⟨ih0, ih1, ih2, ih3, ih4, ih5⟩ := code_Pops.mono_l k
  unfold code_Pops.f
  repeat' first
      | (with_reducible exact ih0 _ _ _ _ _ _ _ _)
      | (with_reducible exact ih1 _ _ _ _ _ _ _ _)
      | (with_reducible exact ih2 _ _ _ _ _ _ _ _)
      | (with_reducible exact ih3 _ _ _ _ _ _ _ _)
      | (with_reducible exact ih4 _ _ _ _)
      | (with_reducible exact ih5 _ _ _ _ _ _)
      | (with_reducible exact LeO.refl _)
      | (with_reducible exact LeO.none _)
      | (with_reducible refine LeO.ite ?_ ?_)
      | (with_reducible refine LeO.bind ?_ (fun _ => ?_))
      | exact ih0 _ _ _ _ _ _ _ _
      | exact ih1 _ _ _ _ _ _ _ _
      | exact ih2 _ _ _ _ _ _ _ _
      | exact ih3 _ _ _ _ _ _ _ _
      | exact ih4 _ _ _ _
      | exact ih5 _ _ _ _ _ _
      | exact LeO.none _
      | refine LeO.ite ?_ ?_
      | refine LeO.bind ?_ (fun _ => ?_)
set_option maxHeartbeats 8000000 in
set_option maxRecDepth 100000 in
theorem code_Pops.calls (k : Nat) (a0_0 : Int) (a0_1 : Int) (a0_2 : Int) (A0_3 : Option Addr) (c0_3 : Nat) (l0_3 : List Int) (r : Int) (w : World) (hr0_3 : Kd.C (Kd.int .i64) w A0_3 l0_3.length l0_3) (hc0_3 : l0_3.length ≤ c0_3) (h : code_Pops.f k a0_0 a0_1 a0_2 l0_3 = some r) :
    Calls Tryd.prog 15 #[.agg #[.int .i64 a0_0, .int .i64 a0_1, .int .i64 a0_2, .slice A0_3 l0_3.length c0_3]] w fun e w' => e = .returned (.int .i64 r) ∧ Below w.heap.size w w' := by
  have hu28 := Tryd.underlying28
  have HR0_3 := Aside0.mk hr0_3
  have HC0_3 := Aside0.mk hc0_3
  clear hr0_3 hc0_3
  have HB := Aside0.mk (Below.refl w.heap.size w)
  have H : (if a0_0 = 5 then (code_Pops.j0 k (mx a0_1 0) 0 a0_0 (a0_0 == 5) a0_0 a0_1 a0_2 l0_3) else (if a0_0 = 9 then (code_Pops.j0 k (mx a0_1 0) 0 a0_0 (a0_0 == 9) a0_0 a0_1 a0_2 l0_3) else (if a0_0 = 13 then (code_Pops.j0 k (mx a0_1 0) 0 a0_0 (a0_0 == 13) a0_0 a0_1 a0_2 l0_3) else (if a0_0 = 15 then (code_Pops.j0 k (mx a0_1 0) 0 a0_0 (a0_0 == 15) a0_0 a0_1 a0_2 l0_3) else (if a0_0 = 17 then (code_Pops.j0 k (mx a0_1 0) 0 a0_0 (a0_0 == 17) a0_0 a0_1 a0_2 l0_3) else (code_Pops.j0 k (mx a0_1 0) 0 a0_0 (a0_0 == 20) a0_0 a0_1 a0_2 l0_3)))))) = some r := h
  clear h
  obtain ⟨ji2, hji2⟩ : ∃ j_ : Int, (mx a0_1 0) = j_ := ⟨_, rfl⟩
  replace H : (if a0_0 = 5 then (code_Pops.j0 k ji2 0 a0_0 (a0_0 == 5) a0_0 a0_1 a0_2 l0_3) else (if a0_0 = 9 then (code_Pops.j0 k ji2 0 a0_0 (a0_0 == 9) a0_0 a0_1 a0_2 l0_3) else (if a0_0 = 13 then (code_Pops.j0 k ji2 0 a0_0 (a0_0 == 13) a0_0 a0_1 a0_2 l0_3) else (if a0_0 = 15 then (code_Pops.j0 k ji2 0 a0_0 (a0_0 == 15) a0_0 a0_1 a0_2 l0_3) else (if a0_0 = 17 then (code_Pops.j0 k ji2 0 a0_0 (a0_0 == 17) a0_0 a0_1 a0_2 l0_3) else (code_Pops.j0 k ji2 0 a0_0 (a0_0 == 20) a0_0 a0_1 a0_2 l0_3)))))) = some r := by first | (rw [hji2] at H; exact H) | (simp only [hji2] at H ⊢; exact H)
  (try (have hji2l : 0 ≤ ji2 := by (rw [← hji2]; unfold mx; (repeat' split) <;> omega)))
  (try (have hji2m : 0 ≤ ji2 := by omega))
  have hji2_ : (if a0_1 < 0 then 0 else a0_1) = ji2 := hji2
  have HC3 := Aside0.mk H
  clear H
  go_enter Tryd.func15, Tryd.ntmps15
  go_upto_if 13 with (first | ((with_reducible refine gate_dst (N := 1) rfl ?_); refine box_event ?hg (N := 1) ?hd (cs := #[.int .i64 a0_0, .int .i64 a0_1, .int .i64 a0_2, .slice A0_3 l0_3.length c0_3]) (t := 28) ?hr ?_; (case hd => rfl); (case hg => rfl); (case hr => first | (go_simp; done) | (go_simp; rfl)); intro gb101 hg w4 hbox hb; have n0_ := Aside0.mk (below_step (by repeat (first | (with_reducible first | exact HB.out | apply below_alloc | apply pw_below_drewN | apply below_drew1) | exact HB.out)) hb); have n1_ := Aside0.mk (hbox); have n2_ := Aside0.mk ((by rw [hg]; exact (below_size (by repeat (first | (with_reducible first | exact HB.out | apply below_alloc | apply pw_below_drewN | apply below_drew1) | exact HB.out))) : w.heap.size ≤ gb101)); have n3_ := Aside0.mk ((by rw [hg]; exact (below_size (by repeat (first | (with_reducible first | exact HB.out | apply below_alloc | apply pw_below_drewN | apply below_drew1) | exact HB.out))) : w.heap.size ≤ gb101)); clear HB; have HB := n0_; have BK101 := n1_; have GW101 := n2_; have GE101 := n3_; clear n0_ n1_ n2_ n3_; clear hb hbox hg; have hcz5_0 : w4.cell? ⟨gb101, 0, none⟩ = some (.int .i64 a0_0) := (blk_cell BK101.out 0).trans rfl; have hcz5_1 : w4.cell? ⟨gb101, 1, none⟩ = some (.int .i64 a0_1) := (blk_cell BK101.out 1).trans rfl; have hcz5_2 : w4.cell? ⟨gb101, 2, none⟩ = some (.int .i64 a0_2) := (blk_cell BK101.out 2).trans rfl; have hcz5_3 : w4.cell? ⟨gb101, 3, none⟩ = some (.slice A0_3 l0_3.length c0_3) := (blk_cell BK101.out 3).trans rfl; have hfz5_0 := blk_frozen BK101.out 0; have hfz5_1 := blk_frozen BK101.out 1; have hfz5_2 := blk_frozen BK101.out 2; have hfz5_3 := blk_frozen BK101.out 3))
  (try simp only [Act.put, List.setIfInBounds_toArray, List.set_cons_zero, List.set_cons_succ])
  go_cut [13] (fun v13 wc => ∃ (kq : Nat) (x13_2 : Bool), v13 = .bool x13_2 ∧ Aside0 (code_Pops.j0 kq ji2 0 a0_0 x13_2 a0_0 a0_1 a0_2 l0_3 = some r) ∧ Aside0 (kq ≤ k) ∧ Aside0 (wc.heap[gb101]? = some (.cells #[.int .i64 a0_0, .int .i64 a0_1, .int .i64 a0_2, (.slice A0_3 l0_3.length c0_3)] 28 (0, 0))) ∧ Aside0 (Below w.heap.size w wc))
  case first =>
    have H := HC3.out
    clear HC3
    by_cases c6 : a0_0 = 5
    · rw [if_pos c6] at H
      have c6b0 : (a0_0 == 5) = true := beq_iff_eq.mpr c6
      have c6b1 : (a0_0 != 5) = false := bne_eq_false_iff_eq.mpr c6
      clear c6
      (first | rw [c6b0] | (simp only [i64_w, i32_w]; rw [c6b0]) | skip)
      have H' := Aside0.mk H
      clear H
      go_wp2
      go_meet
      case rel => exact ⟨_, ((a0_0 == 5)), (by first | rfl | (simp; done) | (simp [*]; done)), H', ⟨by first | omega | exact Nat.le_refl _⟩, ⟨by (with_reducible repeat (first | refine blk_drewN ?_ _ | refine blk_drew ?_ | refine blk_alloc ?_ _)); exact BK101.out⟩, ⟨by repeat (first | (with_reducible first | exact HB.out | apply below_alloc | apply pw_below_drewN | apply below_drew1 | refine below_set ?_ GE101.out) | exact HB.out)⟩⟩
    · rw [if_neg c6] at H
      have c6b0 : (a0_0 == 5) = false := beq_eq_false_iff_ne.mpr c6
      have c6b1 : (a0_0 != 5) = true := bne_iff_ne.mpr c6
      (first | rw [c6b0] | (simp only [i64_w, i32_w]; rw [c6b0]) | skip)
      by_cases c7 : a0_0 = 9
      · rw [if_pos c7] at H
        have c7b0 : (a0_0 == 9) = true := beq_iff_eq.mpr c7
        have c7b1 : (a0_0 != 9) = false := bne_eq_false_iff_eq.mpr c7
        clear c7
        have H' := Aside0.mk H
        clear H
        go_wp2
        go_meet
        case rel => exact ⟨_, ((a0_0 == 9)), (by first | rfl | (simp; done) | (simp [*]; done)), H', ⟨by first | omega | exact Nat.le_refl _⟩, ⟨by (with_reducible repeat (first | refine blk_drewN ?_ _ | refine blk_drew ?_ | refine blk_alloc ?_ _)); exact BK101.out⟩, ⟨by repeat (first | (with_reducible first | exact HB.out | apply below_alloc | apply pw_below_drewN | apply below_drew1 | refine below_set ?_ GE101.out) | exact HB.out)⟩⟩
      · rw [if_neg c7] at H
        have c7b0 : (a0_0 == 9) = false := beq_eq_false_iff_ne.mpr c7
        have c7b1 : (a0_0 != 9) = true := bne_iff_ne.mpr c7
        by_cases c8 : a0_0 = 13
        · rw [if_pos c8] at H
          have c8b0 : (a0_0 == 13) = true := beq_iff_eq.mpr c8
          have c8b1 : (a0_0 != 13) = false := bne_eq_false_iff_eq.mpr c8
          clear c8
          have H' := Aside0.mk H
          clear H
          go_wp2
          go_meet
          case rel => exact ⟨_, ((a0_0 == 13)), (by first | rfl | (simp; done) | (simp [*]; done)), H', ⟨by first | omega | exact Nat.le_refl _⟩, ⟨by (with_reducible repeat (first | refine blk_drewN ?_ _ | refine blk_drew ?_ | refine blk_alloc ?_ _)); exact BK101.out⟩, ⟨by repeat (first | (with_reducible first | exact HB.out | apply below_alloc | apply pw_below_drewN | apply below_drew1 | refine below_set ?_ GE101.out) | exact HB.out)⟩⟩
        · rw [if_neg c8] at H
          have c8b0 : (a0_0 == 13) = false := beq_eq_false_iff_ne.mpr c8
          have c8b1 : (a0_0 != 13) = true := bne_iff_ne.mpr c8
          by_cases c9 : a0_0 = 15
          · rw [if_pos c9] at H
            have c9b0 : (a0_0 == 15) = true := beq_iff_eq.mpr c9
            have c9b1 : (a0_0 != 15) = false := bne_eq_false_iff_eq.mpr c9
            clear c9
            have H' := Aside0.mk H
            clear H
            go_wp2
            go_meet
            case rel => exact ⟨_, ((a0_0 == 15)), (by first | rfl | (simp; done) | (simp [*]; done)), H', ⟨by first | omega | exact Nat.le_refl _⟩, ⟨by (with_reducible repeat (first | refine blk_drewN ?_ _ | refine blk_drew ?_ | refine blk_alloc ?_ _)); exact BK101.out⟩, ⟨by repeat (first | (with_reducible first | exact HB.out | apply below_alloc | apply pw_below_drewN | apply below_drew1 | refine below_set ?_ GE101.out) | exact HB.out)⟩⟩
          · rw [if_neg c9] at H
            have c9b0 : (a0_0 == 15) = false := beq_eq_false_iff_ne.mpr c9
            have c9b1 : (a0_0 != 15) = true := bne_iff_ne.mpr c9
            by_cases c10 : a0_0 = 17
            · rw [if_pos c10] at H
              have c10b0 : (a0_0 == 17) = true := beq_iff_eq.mpr c10
              have c10b1 : (a0_0 != 17) = false := bne_eq_false_iff_eq.mpr c10
              clear c10
              have H' := Aside0.mk H
              clear H
              go_wp2
              go_meet
              case rel => exact ⟨_, ((a0_0 == 17)), (by first | rfl | (simp; done) | (simp [*]; done)), H', ⟨by first | omega | exact Nat.le_refl _⟩, ⟨by (with_reducible repeat (first | refine blk_drewN ?_ _ | refine blk_drew ?_ | refine blk_alloc ?_ _)); exact BK101.out⟩, ⟨by repeat (first | (with_reducible first | exact HB.out | apply below_alloc | apply pw_below_drewN | apply below_drew1 | refine below_set ?_ GE101.out) | exact HB.out)⟩⟩
            · rw [if_neg c10] at H
              have c10b0 : (a0_0 == 17) = false := beq_eq_false_iff_ne.mpr c10
              have c10b1 : (a0_0 != 17) = true := bne_iff_ne.mpr c10
              have H' := Aside0.mk H
              clear H
              go_wp2
              go_meet
              case rel => exact ⟨_, ((a0_0 == 20)), (by first | rfl | (simp; done) | (simp [*]; done)), H', ⟨by first | omega | exact Nat.le_refl _⟩, ⟨by (with_reducible repeat (first | refine blk_drewN ?_ _ | refine blk_drew ?_ | refine blk_alloc ?_ _)); exact BK101.out⟩, ⟨by repeat (first | (with_reducible first | exact HB.out | apply below_alloc | apply pw_below_drewN | apply below_drew1 | refine below_set ?_ GE101.out) | exact HB.out)⟩⟩
  case rest =>
    clear HC3
    try clear c1
    try clear p2
    try clear c6
    try clear c6b0
    try clear c6b1
    try clear c7
    try clear c7b0
    try clear c7b1
    try clear c8
    try clear c8b0
    try clear c8b1
    try clear c9
    try clear c9b0
    try clear c9b1
    try clear c10
    try clear c10b0
    try clear c10b1
    try clear hcz5_0
    try clear hcz5_1
    try clear hcz5_2
    try clear hcz5_3
    try clear hfz5_0
    try clear hfz5_1
    try clear hfz5_2
    try clear hfz5_3
    obtain ⟨kq, x13_2, rfl, HA, HJ2, BK101, HB⟩ := hcut
    cases kq with
    | zero => exact absurd HA.out (by simp [code_Pops.j0])
    | succ kj2 =>
      have H := HA.out
      clear HA
      simp only [code_Pops.j0] at H
      by_cases c11 : x13_2 = true
      · subst c11
        have H1 : (some 1) = some r := by rw [if_pos rfl] at H; exact H
        clear H
        have H := H1
        clear H1
        obtain rfl := Option.some.inj H
        go_wp2
        go_ret
        exact ⟨by first | rfl | (simp [errW_none, errW_some] <;> rfl) | (simp only [← hji2]; first | rfl | (simp [errW_none, errW_some] <;> rfl)) | (simp [*, errW_none, errW_some] <;> rfl), by repeat (first | (with_reducible first | exact HB.out | apply below_alloc | apply pw_below_drewN | apply below_drew1 | refine below_set ?_ GE101.out) | exact HB.out)⟩
      · replace c11 := Bool.eq_false_iff.mpr c11
        subst c11
        have H1 : (if a0_0 = 12 then (code_Pops.j1 kj2 ji2 0 a0_0 (a0_0 == 12) a0_0 a0_1 a0_2 l0_3) else (if a0_0 = 14 then (code_Pops.j1 kj2 ji2 0 a0_0 (a0_0 == 14) a0_0 a0_1 a0_2 l0_3) else (code_Pops.j1 kj2 ji2 0 a0_0 (a0_0 == 18) a0_0 a0_1 a0_2 l0_3))) = some r := by rw [if_neg (show ¬ (false = true) by decide)] at H; exact H
        clear H
        have H := H1
        clear H1
        have HC12 := Aside0.mk H
        clear H
        go_upto_if 20 with (fail)
        go_cut [20] (fun v20 wc => ∃ (kq : Nat) (x20_11 : Bool), v20 = .bool x20_11 ∧ Aside0 (code_Pops.j1 kq ji2 0 a0_0 x20_11 a0_0 a0_1 a0_2 l0_3 = some r) ∧ Aside0 (kq ≤ kj2) ∧ Aside0 (wc.heap[gb101]? = some (.cells #[.int .i64 a0_0, .int .i64 a0_1, .int .i64 a0_2, (.slice A0_3 l0_3.length c0_3)] 28 (0, 0))) ∧ Aside0 (Below w.heap.size w wc))
        case first =>
          have H := HC12.out
          clear HC12
          by_cases c13 : a0_0 = 12
          · rw [if_pos c13] at H
            have c13b0 : (a0_0 == 12) = true := beq_iff_eq.mpr c13
            have c13b1 : (a0_0 != 12) = false := bne_eq_false_iff_eq.mpr c13
            clear c13
            (first | rw [c13b0] | (simp only [i64_w, i32_w]; rw [c13b0]) | skip)
            have H' := Aside0.mk H
            clear H
            go_wp2
            go_meet
            case rel => exact ⟨_, ((a0_0 == 12)), (by first | rfl | (simp; done) | (simp [*]; done)), H', ⟨by have := HJ2.out; first | omega | exact Nat.le_refl _⟩, ⟨by (with_reducible repeat (first | refine blk_drewN ?_ _ | refine blk_drew ?_ | refine blk_alloc ?_ _)); exact BK101.out⟩, ⟨by repeat (first | (with_reducible first | exact HB.out | apply below_alloc | apply pw_below_drewN | apply below_drew1 | refine below_set ?_ GE101.out) | exact HB.out)⟩⟩
          · rw [if_neg c13] at H
            have c13b0 : (a0_0 == 12) = false := beq_eq_false_iff_ne.mpr c13
            have c13b1 : (a0_0 != 12) = true := bne_iff_ne.mpr c13
            (first | rw [c13b0] | (simp only [i64_w, i32_w]; rw [c13b0]) | skip)
            by_cases c14 : a0_0 = 14
            · rw [if_pos c14] at H
              have c14b0 : (a0_0 == 14) = true := beq_iff_eq.mpr c14
              have c14b1 : (a0_0 != 14) = false := bne_eq_false_iff_eq.mpr c14
              clear c14
              have H' := Aside0.mk H
              clear H
              go_wp2
              go_meet
              case rel => exact ⟨_, ((a0_0 == 14)), (by first | rfl | (simp; done) | (simp [*]; done)), H', ⟨by have := HJ2.out; first | omega | exact Nat.le_refl _⟩, ⟨by (with_reducible repeat (first | refine blk_drewN ?_ _ | refine blk_drew ?_ | refine blk_alloc ?_ _)); exact BK101.out⟩, ⟨by repeat (first | (with_reducible first | exact HB.out | apply below_alloc | apply pw_below_drewN | apply below_drew1 | refine below_set ?_ GE101.out) | exact HB.out)⟩⟩
            · rw [if_neg c14] at H
              have c14b0 : (a0_0 == 14) = false := beq_eq_false_iff_ne.mpr c14
              have c14b1 : (a0_0 != 14) = true := bne_iff_ne.mpr c14
              have H' := Aside0.mk H
              clear H
              go_wp2
              go_meet
              case rel => exact ⟨_, ((a0_0 == 18)), (by first | rfl | (simp; done) | (simp [*]; done)), H', ⟨by have := HJ2.out; first | omega | exact Nat.le_refl _⟩, ⟨by (with_reducible repeat (first | refine blk_drewN ?_ _ | refine blk_drew ?_ | refine blk_alloc ?_ _)); exact BK101.out⟩, ⟨by repeat (first | (with_reducible first | exact HB.out | apply below_alloc | apply pw_below_drewN | apply below_drew1 | refine below_set ?_ GE101.out) | exact HB.out)⟩⟩
        case rest =>
          clear HC12
          try clear c1
          try clear p2
          try clear c6
          try clear c6b0
          try clear c6b1
          try clear c7
          try clear c7b0
          try clear c7b1
          try clear c8
          try clear c8b0
          try clear c8b1
          try clear c9
          try clear c9b0
          try clear c9b1
          try clear c10
          try clear c10b0
          try clear c10b1
          try clear c11
          try clear c13
          try clear c13b0
          try clear c13b1
          try clear c14
          try clear c14b0
          try clear c14b1
          try clear hcz5_0
          try clear hcz5_1
          try clear hcz5_2
          try clear hcz5_3
          try clear hfz5_0
          try clear hfz5_1
          try clear hfz5_2
          try clear hfz5_3
          try clear p2
          obtain ⟨kq, x20_11, rfl, HA, HJ11, BK101, HB⟩ := hcut
          cases kq with
          | zero => exact absurd HA.out (by simp [code_Pops.j1])
          | succ kj11 =>
            have H := HA.out
            clear HA
            simp only [code_Pops.j1] at H
            by_cases c15 : x20_11 = true
            · subst c15
              have H1 : (some 2) = some r := by rw [if_pos rfl] at H; exact H
              clear H
              have H := H1
              clear H1
              obtain rfl := Option.some.inj H
              go_wp2
              go_ret
              exact ⟨by first | rfl | (simp [errW_none, errW_some] <;> rfl) | (simp only [← hji2]; first | rfl | (simp [errW_none, errW_some] <;> rfl)) | (simp [*, errW_none, errW_some] <;> rfl), by repeat (first | (with_reducible first | exact HB.out | apply below_alloc | apply pw_below_drewN | apply below_drew1 | refine below_set ?_ GE101.out) | exact HB.out)⟩
            · replace c15 := Bool.eq_false_iff.mpr c15
              subst c15
              have H1 : (if a0_0 = 10 then (code_Pops.j2 kj11 ji2 0 a0_0 (a0_0 == 10) a0_0 a0_1 a0_2 l0_3) else (code_Pops.j2 kj11 ji2 0 a0_0 (a0_0 == 11) a0_0 a0_1 a0_2 l0_3)) = some r := by rw [if_neg (show ¬ (false = true) by decide)] at H; exact H
              clear H
              have H := H1
              clear H1
              have HC16 := Aside0.mk H
              clear H
              go_upto_if 24 with (fail)
              go_cut [24] (fun v24 wc => ∃ (kq : Nat) (x24_15 : Bool), v24 = .bool x24_15 ∧ Aside0 (code_Pops.j2 kq ji2 0 a0_0 x24_15 a0_0 a0_1 a0_2 l0_3 = some r) ∧ Aside0 (kq ≤ kj11) ∧ Aside0 (wc.heap[gb101]? = some (.cells #[.int .i64 a0_0, .int .i64 a0_1, .int .i64 a0_2, (.slice A0_3 l0_3.length c0_3)] 28 (0, 0))) ∧ Aside0 (Below w.heap.size w wc))
              case first =>
                have H := HC16.out
                clear HC16
                by_cases c17 : a0_0 = 10
                · rw [if_pos c17] at H
                  have c17b0 : (a0_0 == 10) = true := beq_iff_eq.mpr c17
                  have c17b1 : (a0_0 != 10) = false := bne_eq_false_iff_eq.mpr c17
                  clear c17
                  (first | rw [c17b0] | (simp only [i64_w, i32_w]; rw [c17b0]) | skip)
                  have H' := Aside0.mk H
                  clear H
                  go_wp2
                  go_meet
                  case rel => exact ⟨_, ((a0_0 == 10)), (by first | rfl | (simp; done) | (simp [*]; done)), H', ⟨by have := HJ2.out; have := HJ11.out; first | omega | exact Nat.le_refl _⟩, ⟨by (with_reducible repeat (first | refine blk_drewN ?_ _ | refine blk_drew ?_ | refine blk_alloc ?_ _)); exact BK101.out⟩, ⟨by repeat (first | (with_reducible first | exact HB.out | apply below_alloc | apply pw_below_drewN | apply below_drew1 | refine below_set ?_ GE101.out) | exact HB.out)⟩⟩
                · rw [if_neg c17] at H
                  have c17b0 : (a0_0 == 10) = false := beq_eq_false_iff_ne.mpr c17
                  have c17b1 : (a0_0 != 10) = true := bne_iff_ne.mpr c17
                  (first | rw [c17b0] | (simp only [i64_w, i32_w]; rw [c17b0]) | skip)
                  have H' := Aside0.mk H
                  clear H
                  go_wp2
                  go_meet
                  case rel => exact ⟨_, ((a0_0 == 11)), (by first | rfl | (simp; done) | (simp [*]; done)), H', ⟨by have := HJ2.out; have := HJ11.out; first | omega | exact Nat.le_refl _⟩, ⟨by (with_reducible repeat (first | refine blk_drewN ?_ _ | refine blk_drew ?_ | refine blk_alloc ?_ _)); exact BK101.out⟩, ⟨by repeat (first | (with_reducible first | exact HB.out | apply below_alloc | apply pw_below_drewN | apply below_drew1 | refine below_set ?_ GE101.out) | exact HB.out)⟩⟩
              case rest =>
                clear HC16
                try clear c1
                try clear p2
                try clear c6
                try clear c6b0
                try clear c6b1
                try clear c7
                try clear c7b0
                try clear c7b1
                try clear c8
                try clear c8b0
                try clear c8b1
                try clear c9
                try clear c9b0
                try clear c9b1
                try clear c10
                try clear c10b0
                try clear c10b1
                try clear c11
                try clear c13
                try clear c13b0
                try clear c13b1
                try clear c14
                try clear c14b0
                try clear c14b1
                try clear c15
                try clear c17
                try clear c17b0
                try clear c17b1
                try clear hcz5_0
                try clear hcz5_1
                try clear hcz5_2
                try clear hcz5_3
                try clear hfz5_0
                try clear hfz5_1
                try clear hfz5_2
                try clear hfz5_3
                try clear p2
                obtain ⟨kq, x24_15, rfl, HA, HJ15, BK101, HB⟩ := hcut
                cases kq with
                | zero => exact absurd HA.out (by simp [code_Pops.j2])
                | succ kj15 =>
                  have H := HA.out
                  clear HA
                  simp only [code_Pops.j2] at H
                  by_cases c18 : x24_15 = true
                  · subst c18
                    have H1 : (some ji2) = some r := by rw [if_pos rfl] at H; exact H
                    clear H
                    have H := H1
                    clear H1
                    obtain rfl := Option.some.inj H
                    go_wp2
                    go_ret
                    exact ⟨by first | rfl | (simp [errW_none, errW_some] <;> rfl) | (simp only [← hji2]; first | rfl | (simp [errW_none, errW_some] <;> rfl)) | (simp [*, errW_none, errW_some] <;> rfl), by repeat (first | (with_reducible first | exact HB.out | apply below_alloc | apply pw_below_drewN | apply below_drew1 | refine below_set ?_ GE101.out) | exact HB.out)⟩
                  · replace c18 := Bool.eq_false_iff.mpr c18
                    subst c18
                    have H1 : (if a0_0 = 23 then (code_Pops.j3 kj15 ji2 0 a0_0 (a0_0 == 23) a0_0 a0_1 a0_2 l0_3) else (code_Pops.j3 kj15 ji2 0 a0_0 (a0_0 == 24) a0_0 a0_1 a0_2 l0_3)) = some r := by rw [if_neg (show ¬ (false = true) by decide)] at H; exact H
                    clear H
                    have H := H1
                    clear H1
                    have HC19 := Aside0.mk H
                    clear H
                    go_upto_if 28 with (fail)
                    go_cut [28] (fun v28 wc => ∃ (kq : Nat) (x28_18 : Bool), v28 = .bool x28_18 ∧ Aside0 (code_Pops.j3 kq ji2 0 a0_0 x28_18 a0_0 a0_1 a0_2 l0_3 = some r) ∧ Aside0 (kq ≤ kj15) ∧ Aside0 (wc.heap[gb101]? = some (.cells #[.int .i64 a0_0, .int .i64 a0_1, .int .i64 a0_2, (.slice A0_3 l0_3.length c0_3)] 28 (0, 0))) ∧ Aside0 (Below w.heap.size w wc))
                    case first =>
                      have H := HC19.out
                      clear HC19
                      by_cases c20 : a0_0 = 23
                      · rw [if_pos c20] at H
                        have c20b0 : (a0_0 == 23) = true := beq_iff_eq.mpr c20
                        have c20b1 : (a0_0 != 23) = false := bne_eq_false_iff_eq.mpr c20
                        clear c20
                        (first | rw [c20b0] | (simp only [i64_w, i32_w]; rw [c20b0]) | skip)
                        have H' := Aside0.mk H
                        clear H
                        go_wp2
                        go_meet
                        case rel => exact ⟨_, ((a0_0 == 23)), (by first | rfl | (simp; done) | (simp [*]; done)), H', ⟨by have := HJ2.out; have := HJ11.out; have := HJ15.out; first | omega | exact Nat.le_refl _⟩, ⟨by (with_reducible repeat (first | refine blk_drewN ?_ _ | refine blk_drew ?_ | refine blk_alloc ?_ _)); exact BK101.out⟩, ⟨by repeat (first | (with_reducible first | exact HB.out | apply below_alloc | apply pw_below_drewN | apply below_drew1 | refine below_set ?_ GE101.out) | exact HB.out)⟩⟩
                      · rw [if_neg c20] at H
                        have c20b0 : (a0_0 == 23) = false := beq_eq_false_iff_ne.mpr c20
                        have c20b1 : (a0_0 != 23) = true := bne_iff_ne.mpr c20
                        (first | rw [c20b0] | (simp only [i64_w, i32_w]; rw [c20b0]) | skip)
                        have H' := Aside0.mk H
                        clear H
                        go_wp2
                        go_meet
                        case rel => exact ⟨_, ((a0_0 == 24)), (by first | rfl | (simp; done) | (simp [*]; done)), H', ⟨by have := HJ2.out; have := HJ11.out; have := HJ15.out; first | omega | exact Nat.le_refl _⟩, ⟨by (with_reducible repeat (first | refine blk_drewN ?_ _ | refine blk_drew ?_ | refine blk_alloc ?_ _)); exact BK101.out⟩, ⟨by repeat (first | (with_reducible first | exact HB.out | apply below_alloc | apply pw_below_drewN | apply below_drew1 | refine below_set ?_ GE101.out) | exact HB.out)⟩⟩
                    case rest =>
                      clear HC19
                      try clear c1
                      try clear c2
                      try clear p2
                      try clear c6
                      try clear c6b0
                      try clear c6b1
                      try clear c7
                      try clear c7b0
                      try clear c7b1
                      try clear c8
                      try clear c8b0
                      try clear c8b1
                      try clear c9
                      try clear c9b0
                      try clear c9b1
                      try clear c10
                      try clear c10b0
                      try clear c10b1
                      try clear c11
                      try clear c13
                      try clear c13b0
                      try clear c13b1
                      try clear c14
                      try clear c14b0
                      try clear c14b1
                      try clear c15
                      try clear c17
                      try clear c17b0
                      try clear c17b1
                      try clear c18
                      try clear c20
                      try clear c20b0
                      try clear c20b1
                      try clear hcz5_0
                      try clear hcz5_1
                      try clear hcz5_2
                      try clear hcz5_3
                      try clear hfz5_0
                      try clear hfz5_1
                      try clear hfz5_2
                      try clear hfz5_3
                      try clear p2
                      obtain ⟨kq, x28_18, rfl, HA, HJ18, BK101, HB⟩ := hcut
                      cases kq with
                      | zero => exact absurd HA.out (by simp [code_Pops.j3])
                      | succ kj18 =>
                        have H := HA.out
                        clear HA
                        simp only [code_Pops.j3] at H
                        by_cases c21 : x28_18 = true
                        · subst c21
                          have H1 : (some (wrap64 ((mn ji2 9223372036854775806) + 1))) = some r := by rw [if_pos rfl] at H; exact H
                          clear H
                          have H := H1
                          clear H1
                          obtain ⟨ji22, hji22⟩ : ∃ j_ : Int, (mn ji2 9223372036854775806) = j_ := ⟨_, rfl⟩
                          replace H : (some (wrap64 ((ji22) + 1))) = some r := by first | (rw [hji22] at H; exact H) | (simp only [hji22] at H ⊢; exact H)
                          have hji22_ : (if 9223372036854775806 < ji2 then 9223372036854775806 else ji2) = ji22 := hji22
                          obtain rfl := Option.some.inj H
                          go_wp2
                          go_ret
                          exact ⟨by first | rfl | ((have l1 : 0 ≤ ji22 := by (rw [← hji22, ← hji2]; unfold mn mx; split <;> (try split) <;> omega)); (have l2 : ji22 ≤ 9223372036854775806 := by (rw [← hji22]; unfold mn; split <;> omega)); rw [show wrap64 (ji22 + 1) = ji22 + 1 by simp only [wrap64]; omega] <;> rfl) | (simp [errW_none, errW_some] <;> rfl) | (simp only [← hji2, ← hji22]; first | rfl | (simp [errW_none, errW_some] <;> rfl)) | (simp [*, errW_none, errW_some] <;> rfl), by repeat (first | (with_reducible first | exact HB.out | apply below_alloc | apply pw_below_drewN | apply below_drew1 | refine below_set ?_ GE101.out) | exact HB.out)⟩
                        · replace c21 := Bool.eq_false_iff.mpr c21
                          subst c21
                          have H1 : (if a0_0 = 22 then (some (mx a0_2 0)) else (if a0_0 = 16 then (code_Pops.l0 kj18 1 l0_3 (l0_3.length : Int) 0) else (if a0_0 = 27 then (code_Pops.l1 kj18 0 0 a0_0 a0_1 a0_2 l0_3) else (some 0)))) = some r := by rw [if_neg (show ¬ (false = true) by decide)] at H; exact H
                          clear H
                          have H := H1
                          clear H1
                          by_cases c23 : a0_0 = 22
                          · rw [if_pos c23] at H
                            have c23b0 : (a0_0 == 22) = true := beq_iff_eq.mpr c23
                            have c23b1 : (a0_0 != 22) = false := bne_eq_false_iff_eq.mpr c23
                            clear c23
                            obtain ⟨ji24, hji24⟩ : ∃ j_ : Int, (mx a0_2 0) = j_ := ⟨_, rfl⟩
                            replace H : (some ji24) = some r := by first | (rw [hji24] at H; exact H) | (simp only [hji24] at H ⊢; exact H)
                            have hji24_ : (if a0_2 < 0 then 0 else a0_2) = ji24 := hji24
                            obtain rfl := Option.some.inj H
                            have hcz25_0 : wc.cell? ⟨gb101, 0, none⟩ = some (.int .i64 a0_0) := (blk_cell BK101.out 0).trans rfl
                            have hcz25_1 : wc.cell? ⟨gb101, 1, none⟩ = some (.int .i64 a0_1) := (blk_cell BK101.out 1).trans rfl
                            have hcz25_2 : wc.cell? ⟨gb101, 2, none⟩ = some (.int .i64 a0_2) := (blk_cell BK101.out 2).trans rfl
                            have hcz25_3 : wc.cell? ⟨gb101, 3, none⟩ = some (.slice A0_3 l0_3.length c0_3) := (blk_cell BK101.out 3).trans rfl
                            have hfz25_0 := blk_frozen BK101.out 0
                            have hfz25_1 := blk_frozen BK101.out 1
                            have hfz25_2 := blk_frozen BK101.out 2
                            have hfz25_3 := blk_frozen BK101.out 3
                            go_wp2
                            go_ret
                            exact ⟨by first | rfl | (simp [errW_none, errW_some] <;> rfl) | (simp only [← hji2, ← hji24]; first | rfl | (simp [errW_none, errW_some] <;> rfl)) | (simp [*, errW_none, errW_some] <;> rfl), by repeat (first | (with_reducible first | exact HB.out | apply below_alloc | apply pw_below_drewN | apply below_drew1 | refine below_set ?_ GE101.out) | exact HB.out)⟩
                          · rw [if_neg c23] at H
                            have c23b0 : (a0_0 == 22) = false := beq_eq_false_iff_ne.mpr c23
                            have c23b1 : (a0_0 != 22) = true := bne_iff_ne.mpr c23
                            by_cases c26 : a0_0 = 16
                            · rw [if_pos c26] at H
                              have c26b0 : (a0_0 == 16) = true := beq_iff_eq.mpr c26
                              have c26b1 : (a0_0 != 16) = false := bne_eq_false_iff_eq.mpr c26
                              clear c26
                              have H' := Aside0.mk H
                              clear H
                              have hcz27_0 : wc.cell? ⟨gb101, 0, none⟩ = some (.int .i64 a0_0) := (blk_cell BK101.out 0).trans rfl
                              have hcz27_1 : wc.cell? ⟨gb101, 1, none⟩ = some (.int .i64 a0_1) := (blk_cell BK101.out 1).trans rfl
                              have hcz27_2 : wc.cell? ⟨gb101, 2, none⟩ = some (.int .i64 a0_2) := (blk_cell BK101.out 2).trans rfl
                              have hcz27_3 : wc.cell? ⟨gb101, 3, none⟩ = some (.slice A0_3 l0_3.length c0_3) := (blk_cell BK101.out 3).trans rfl
                              have hfz27_0 := blk_frozen BK101.out 0
                              have hfz27_1 := blk_frozen BK101.out 1
                              have hfz27_2 := blk_frozen BK101.out 2
                              have hfz27_3 := blk_frozen BK101.out 3
                              go_wp2
                              go_loopg [4, 44] kj18 (fun kq v4 v44 w' => ∃ (x4_5 : Int) (x44_5 : Int), v4 = .int .i64 x4_5 ∧ v44 = .int .i64 x44_5 ∧ Aside0 (code_Pops.l0 kq x4_5 l0_3 (l0_3.length : Int) x44_5 = some r) ∧ Aside0 (kq ≤ kj18) ∧ Aside0 (w'.heap[gb101]? = some (.cells #[.int .i64 a0_0, .int .i64 a0_1, .int .i64 a0_2, (.slice A0_3 l0_3.length c0_3)] 28 (0, 0))) ∧ Aside0 (Below w.heap.size w w'))
                              case atStart => exact ⟨(1), (0), (by first | rfl | (simp; done) | (simp [*]; done)), (by first | rfl | (simp; done) | (simp [*]; done)), H', ⟨Nat.le_refl _⟩, ⟨by (with_reducible repeat (first | refine blk_drewN ?_ _ | refine blk_drew ?_ | refine blk_alloc ?_ _)); exact BK101.out⟩, ⟨by repeat (first | (with_reducible first | exact HB.out | apply below_alloc | apply pw_below_drewN | apply below_drew1 | refine below_set ?_ GE101.out) | exact HB.out)⟩⟩
                              case round =>
                                clear H'
                                try clear c1
                                try clear c2
                                try clear p2
                                try clear c6
                                try clear c6b0
                                try clear c6b1
                                try clear p6
                                try clear c7
                                try clear c7b0
                                try clear c7b1
                                try clear c8
                                try clear c8b0
                                try clear c8b1
                                try clear c9
                                try clear c9b0
                                try clear c9b1
                                try clear c10
                                try clear c10b0
                                try clear c10b1
                                try clear c11
                                try clear c13
                                try clear c13b0
                                try clear c13b1
                                try clear c14
                                try clear c14b0
                                try clear c14b1
                                try clear c15
                                try clear c17
                                try clear c17b0
                                try clear c17b1
                                try clear c18
                                try clear c20
                                try clear c20b0
                                try clear c20b1
                                try clear c21
                                try clear c23
                                try clear c23b0
                                try clear c23b1
                                try clear c26
                                try clear c26b0
                                try clear c26b1
                                try clear hcz25_0
                                try clear hcz25_1
                                try clear hcz25_2
                                try clear hcz25_3
                                try clear hcz27_0
                                try clear hcz27_1
                                try clear hcz27_2
                                try clear hcz27_3
                                try clear hcz5_0
                                try clear hcz5_1
                                try clear hcz5_2
                                try clear hcz5_3
                                try clear hfz25_0
                                try clear hfz25_1
                                try clear hfz25_2
                                try clear hfz25_3
                                try clear hfz27_0
                                try clear hfz27_1
                                try clear hfz27_2
                                try clear hfz27_3
                                try clear hfz5_0
                                try clear hfz5_1
                                try clear hfz5_2
                                try clear hfz5_3
                                try clear p2
                                obtain ⟨x4_5, x44_5, rfl, rfl, HA, HK5, BK101, HB⟩ := hrel
                                cases gk with
                                | zero => exact absurd HA.out (by simp [code_Pops.l0])
                                | succ k5 =>
                                  have H := HA.out
                                  clear HA
                                  simp only [code_Pops.l0] at H
                                  by_cases c28 : x44_5 < (l0_3.length : Int)
                                  · rw [if_pos c28] at H
                                    have c28b0 : decide (x44_5 < (l0_3.length : Int)) = true := decide_eq_true c28
                                    clear c28
                                    by_cases c29 : 0 ≤ x44_5
                                    · rw [if_pos c29] at H
                                      have c29b0 : decide (0 ≤ x44_5) = true := decide_eq_true c29
                                      clear c29
                                      by_cases c30 : x44_5 < (l0_3.length : Int)
                                      · rw [if_pos c30] at H
                                        have c30b0 : decide (x44_5 < (l0_3.length : Int)) = true := decide_eq_true c30
                                        clear c30
                                        by_cases c31 : (rd l0_3 x44_5) = (-1)
                                        · rw [if_pos c31] at H
                                          have c31b0 : ((rd l0_3 x44_5) == (-1)) = true := beq_iff_eq.mpr c31
                                          have c31b1 : ((rd l0_3 x44_5) != (-1)) = false := bne_eq_false_iff_eq.mpr c31
                                          clear c31
                                          have H' := Aside0.mk H
                                          clear H
                                          have p102 : 0 ≤ (x44_5 : Int) := of_decide_eq_true (by first | (with_reducible assumption) | assumption)
                                          have q102 : x44_5 < (l0_3.length : Int) := of_decide_eq_true (by first | (with_reducible assumption) | assumption)
                                          obtain ⟨ad102, e102, hx102_0⟩ := Kd.at_int HR0_3.out x44_5 p102 q102
                                          cases e102
                                          replace hx102_0 := (HB.out.cell (World.block_lt_of_cell? w _ hx102_0)).trans hx102_0
                                          replace p102 := eq_true p102
                                          replace q102 := eq_true q102
                                          go_wp2
                                          go_roundg k5
                                          case measure => have := HJ2.out; have := HJ11.out; have := HJ15.out; have := HJ18.out; have := HK5.out; omega
                                          case rel => exact ⟨(wrap64 (x4_5 + 1)), (wrap64 (x44_5 + 1)), (by first | rfl | (simp; done) | (simp [*]; done)), (by first | rfl | (simp; done) | (simp [*]; done)), H', ⟨by have := HJ2.out; have := HJ11.out; have := HJ15.out; have := HJ18.out; have := HK5.out; omega⟩, ⟨by (with_reducible repeat (first | refine blk_drewN ?_ _ | refine blk_drew ?_ | refine blk_alloc ?_ _)); exact BK101.out⟩, ⟨by repeat (first | (with_reducible first | exact HB.out | apply below_alloc | apply pw_below_drewN | apply below_drew1 | refine below_set ?_ GE101.out) | exact HB.out)⟩⟩
                                        · rw [if_neg c31] at H
                                          have c31b0 : ((rd l0_3 x44_5) == (-1)) = false := beq_eq_false_iff_ne.mpr c31
                                          have c31b1 : ((rd l0_3 x44_5) != (-1)) = true := bne_iff_ne.mpr c31
                                          have H' := Aside0.mk H
                                          clear H
                                          have p102 : 0 ≤ (x44_5 : Int) := of_decide_eq_true (by first | (with_reducible assumption) | assumption)
                                          have q102 : x44_5 < (l0_3.length : Int) := of_decide_eq_true (by first | (with_reducible assumption) | assumption)
                                          obtain ⟨ad102, e102, hx102_0⟩ := Kd.at_int HR0_3.out x44_5 p102 q102
                                          cases e102
                                          replace hx102_0 := (HB.out.cell (World.block_lt_of_cell? w _ hx102_0)).trans hx102_0
                                          replace p102 := eq_true p102
                                          replace q102 := eq_true q102
                                          go_wp2
                                          go_roundg k5
                                          case measure => have := HJ2.out; have := HJ11.out; have := HJ15.out; have := HJ18.out; have := HK5.out; omega
                                          case rel => exact ⟨(x4_5), (wrap64 (x44_5 + 1)), (by first | rfl | (simp; done) | (simp [*]; done)), (by first | rfl | (simp; done) | (simp [*]; done)), H', ⟨by have := HJ2.out; have := HJ11.out; have := HJ15.out; have := HJ18.out; have := HK5.out; omega⟩, ⟨by (with_reducible repeat (first | refine blk_drewN ?_ _ | refine blk_drew ?_ | refine blk_alloc ?_ _)); exact BK101.out⟩, ⟨by repeat (first | (with_reducible first | exact HB.out | apply below_alloc | apply pw_below_drewN | apply below_drew1 | refine below_set ?_ GE101.out) | exact HB.out)⟩⟩
                                      · rw [if_neg c30] at H
                                        exact absurd H (by simp)
                                    · rw [if_neg c29] at H
                                      exact absurd H (by simp)
                                  · rw [if_neg c28] at H
                                    have c28b0 : decide (x44_5 < (l0_3.length : Int)) = false := decide_eq_false c28
                                    clear c28
                                    obtain rfl := Option.some.inj H
                                    go_wp2
                                    go_ret
                                    exact ⟨by first | rfl | (simp [errW_none, errW_some] <;> rfl) | (simp only [← hji2]; first | rfl | (simp [errW_none, errW_some] <;> rfl)) | (simp [*, errW_none, errW_some] <;> rfl), by repeat (first | (with_reducible first | exact HB.out | apply below_alloc | apply pw_below_drewN | apply below_drew1 | refine below_set ?_ GE101.out) | exact HB.out)⟩
                            · rw [if_neg c26] at H
                              have c26b0 : (a0_0 == 16) = false := beq_eq_false_iff_ne.mpr c26
                              have c26b1 : (a0_0 != 16) = true := bne_iff_ne.mpr c26
                              by_cases c32 : a0_0 = 27
                              · rw [if_pos c32] at H
                                have c32b0 : (a0_0 == 27) = true := beq_iff_eq.mpr c32
                                have c32b1 : (a0_0 != 27) = false := bne_eq_false_iff_eq.mpr c32
                                clear c32
                                have H' := Aside0.mk H
                                clear H
                                go_wp2
                                go_loopg [4, 7] kj18 (fun kq v4 v7 w' => ∃ (x4_5 : Int) (x7_5 : Int), v4 = .int .i64 x4_5 ∧ v7 = .int .i64 x7_5 ∧ Aside0 (code_Pops.l1 kq x4_5 x7_5 a0_0 a0_1 a0_2 l0_3 = some r) ∧ Aside0 (kq ≤ kj18) ∧ Aside0 (w'.heap[gb101]? = some (.cells #[.int .i64 a0_0, .int .i64 a0_1, .int .i64 a0_2, (.slice A0_3 l0_3.length c0_3)] 28 (0, 0))) ∧ Aside0 (Below w.heap.size w w'))
                                case atStart => exact ⟨(0), (0), (by first | rfl | (simp; done) | (simp [*]; done)), (by first | rfl | (simp; done) | (simp [*]; done)), H', ⟨Nat.le_refl _⟩, ⟨by (with_reducible repeat (first | refine blk_drewN ?_ _ | refine blk_drew ?_ | refine blk_alloc ?_ _)); exact BK101.out⟩, ⟨by repeat (first | (with_reducible first | exact HB.out | apply below_alloc | apply pw_below_drewN | apply below_drew1 | refine below_set ?_ GE101.out) | exact HB.out)⟩⟩
                                case round =>
                                  clear H'
                                  try clear c1
                                  try clear p1
                                  try clear q1
                                  try clear hx1
                                  try clear c2
                                  try clear p2
                                  try clear c3
                                  try clear c6
                                  try clear c6b0
                                  try clear c6b1
                                  try clear p6
                                  try clear c7
                                  try clear c7b0
                                  try clear c7b1
                                  try clear c8
                                  try clear c8b0
                                  try clear c8b1
                                  try clear c9
                                  try clear c9b0
                                  try clear c9b1
                                  try clear c10
                                  try clear c10b0
                                  try clear c10b1
                                  try clear p10
                                  try clear q10
                                  try clear hx10
                                  try clear c11
                                  try clear c13
                                  try clear c13b0
                                  try clear c13b1
                                  try clear c14
                                  try clear c14b0
                                  try clear c14b1
                                  try clear c15
                                  try clear c17
                                  try clear c17b0
                                  try clear c17b1
                                  try clear c18
                                  try clear c20
                                  try clear c20b0
                                  try clear c20b1
                                  try clear c21
                                  try clear c23
                                  try clear c23b0
                                  try clear c23b1
                                  try clear c26
                                  try clear c26b0
                                  try clear c26b1
                                  try clear c28
                                  try clear c28b0
                                  try clear c29
                                  try clear c29b0
                                  try clear c30
                                  try clear c30b0
                                  try clear c31
                                  try clear c31b0
                                  try clear c31b1
                                  try clear c32
                                  try clear c32b0
                                  try clear c32b1
                                  try clear hcz25_0
                                  try clear hcz25_1
                                  try clear hcz25_2
                                  try clear hcz25_3
                                  try clear hcz27_0
                                  try clear hcz27_1
                                  try clear hcz27_2
                                  try clear hcz27_3
                                  try clear hcz5_0
                                  try clear hcz5_1
                                  try clear hcz5_2
                                  try clear hcz5_3
                                  try clear hfz25_0
                                  try clear hfz25_1
                                  try clear hfz25_2
                                  try clear hfz25_3
                                  try clear hfz27_0
                                  try clear hfz27_1
                                  try clear hfz27_2
                                  try clear hfz27_3
                                  try clear hfz5_0
                                  try clear hfz5_1
                                  try clear hfz5_2
                                  try clear hfz5_3
                                  try clear hx102_0
                                  try clear p102
                                  try clear p2
                                  try clear p6
                                  try clear q102
                                  obtain ⟨x4_5, x7_5, rfl, rfl, HA, HK5, BK101, HB⟩ := hrel
                                  cases gk with
                                  | zero => exact absurd HA.out (by simp [code_Pops.l1])
                                  | succ k5 =>
                                    have H := HA.out
                                    clear HA
                                    simp only [code_Pops.l1] at H
                                    by_cases c33 : x7_5 < (l0_3.length : Int)
                                    · rw [if_pos c33] at H
                                      have c33b0 : decide (x7_5 < (l0_3.length : Int)) = true := decide_eq_true c33
                                      clear c33
                                      by_cases c34 : 0 ≤ x7_5
                                      · rw [if_pos c34] at H
                                        have c34b0 : decide (0 ≤ x7_5) = true := decide_eq_true c34
                                        clear c34
                                        by_cases c35 : (rd l0_3 x7_5) = 1
                                        · rw [if_pos c35] at H
                                          have c35b0 : ((rd l0_3 x7_5) == 1) = true := beq_iff_eq.mpr c35
                                          have c35b1 : ((rd l0_3 x7_5) != 1) = false := bne_eq_false_iff_eq.mpr c35
                                          clear c35
                                          have H' := Aside0.mk H
                                          clear H
                                          have hcz36_0 : wr.cell? ⟨gb101, 0, none⟩ = some (.int .i64 a0_0) := (blk_cell BK101.out 0).trans rfl
                                          have hcz36_1 : wr.cell? ⟨gb101, 1, none⟩ = some (.int .i64 a0_1) := (blk_cell BK101.out 1).trans rfl
                                          have hcz36_2 : wr.cell? ⟨gb101, 2, none⟩ = some (.int .i64 a0_2) := (blk_cell BK101.out 2).trans rfl
                                          have hcz36_3 : wr.cell? ⟨gb101, 3, none⟩ = some (.slice A0_3 l0_3.length c0_3) := (blk_cell BK101.out 3).trans rfl
                                          have hfz36_0 := blk_frozen BK101.out 0
                                          have hfz36_1 := blk_frozen BK101.out 1
                                          have hfz36_2 := blk_frozen BK101.out 2
                                          have hfz36_3 := blk_frozen BK101.out 3
                                          have p103 : 0 ≤ (x7_5 : Int) := of_decide_eq_true (by first | (with_reducible assumption) | assumption)
                                          have q103 : x7_5 < (l0_3.length : Int) := of_decide_eq_true (by first | (with_reducible assumption) | assumption)
                                          obtain ⟨ad103, e103, hx103_0⟩ := Kd.at_int HR0_3.out x7_5 p103 q103
                                          cases e103
                                          replace hx103_0 := (HB.out.cell (World.block_lt_of_cell? w _ hx103_0)).trans hx103_0
                                          replace p103 := eq_true p103
                                          replace q103 := eq_true q103
                                          go_wp2
                                          go_roundg k5
                                          case measure => have := HJ2.out; have := HJ11.out; have := HJ15.out; have := HJ18.out; have := HK5.out; omega
                                          case rel => exact ⟨(wrap64 ((wrap64 (x4_5 + 1)) + 1)), (wrap64 (x7_5 + 2)), (by first | rfl | (simp; done) | (simp [*]; done)), (by first | rfl | (simp; done) | (simp [*]; done)), H', ⟨by have := HJ2.out; have := HJ11.out; have := HJ15.out; have := HJ18.out; have := HK5.out; omega⟩, ⟨by (with_reducible repeat (first | refine blk_drewN ?_ _ | refine blk_drew ?_ | refine blk_alloc ?_ _)); exact BK101.out⟩, ⟨by repeat (first | (with_reducible first | exact HB.out | apply below_alloc | apply pw_below_drewN | apply below_drew1 | refine below_set ?_ GE101.out) | exact HB.out)⟩⟩
                                        · rw [if_neg c35] at H
                                          have c35b0 : ((rd l0_3 x7_5) == 1) = false := beq_eq_false_iff_ne.mpr c35
                                          have c35b1 : ((rd l0_3 x7_5) != 1) = true := bne_iff_ne.mpr c35
                                          have H' := Aside0.mk H
                                          clear H
                                          have hcz37_0 : wr.cell? ⟨gb101, 0, none⟩ = some (.int .i64 a0_0) := (blk_cell BK101.out 0).trans rfl
                                          have hcz37_1 : wr.cell? ⟨gb101, 1, none⟩ = some (.int .i64 a0_1) := (blk_cell BK101.out 1).trans rfl
                                          have hcz37_2 : wr.cell? ⟨gb101, 2, none⟩ = some (.int .i64 a0_2) := (blk_cell BK101.out 2).trans rfl
                                          have hcz37_3 : wr.cell? ⟨gb101, 3, none⟩ = some (.slice A0_3 l0_3.length c0_3) := (blk_cell BK101.out 3).trans rfl
                                          have hfz37_0 := blk_frozen BK101.out 0
                                          have hfz37_1 := blk_frozen BK101.out 1
                                          have hfz37_2 := blk_frozen BK101.out 2
                                          have hfz37_3 := blk_frozen BK101.out 3
                                          have p103 : 0 ≤ (x7_5 : Int) := of_decide_eq_true (by first | (with_reducible assumption) | assumption)
                                          have q103 : x7_5 < (l0_3.length : Int) := of_decide_eq_true (by first | (with_reducible assumption) | assumption)
                                          obtain ⟨ad103, e103, hx103_0⟩ := Kd.at_int HR0_3.out x7_5 p103 q103
                                          cases e103
                                          replace hx103_0 := (HB.out.cell (World.block_lt_of_cell? w _ hx103_0)).trans hx103_0
                                          replace p103 := eq_true p103
                                          replace q103 := eq_true q103
                                          go_wp2
                                          go_roundg k5
                                          case measure => have := HJ2.out; have := HJ11.out; have := HJ15.out; have := HJ18.out; have := HK5.out; omega
                                          case rel => exact ⟨(wrap64 (x4_5 + 1)), (wrap64 (x7_5 + 2)), (by first | rfl | (simp; done) | (simp [*]; done)), (by first | rfl | (simp; done) | (simp [*]; done)), H', ⟨by have := HJ2.out; have := HJ11.out; have := HJ15.out; have := HJ18.out; have := HK5.out; omega⟩, ⟨by (with_reducible repeat (first | refine blk_drewN ?_ _ | refine blk_drew ?_ | refine blk_alloc ?_ _)); exact BK101.out⟩, ⟨by repeat (first | (with_reducible first | exact HB.out | apply below_alloc | apply pw_below_drewN | apply below_drew1 | refine below_set ?_ GE101.out) | exact HB.out)⟩⟩
                                      · rw [if_neg c34] at H
                                        exact absurd H (by simp)
                                    · rw [if_neg c33] at H
                                      have c33b0 : decide (x7_5 < (l0_3.length : Int)) = false := decide_eq_false c33
                                      clear c33
                                      obtain rfl := Option.some.inj H
                                      have hcz38_0 : wr.cell? ⟨gb101, 0, none⟩ = some (.int .i64 a0_0) := (blk_cell BK101.out 0).trans rfl
                                      have hcz38_1 : wr.cell? ⟨gb101, 1, none⟩ = some (.int .i64 a0_1) := (blk_cell BK101.out 1).trans rfl
                                      have hcz38_2 : wr.cell? ⟨gb101, 2, none⟩ = some (.int .i64 a0_2) := (blk_cell BK101.out 2).trans rfl
                                      have hcz38_3 : wr.cell? ⟨gb101, 3, none⟩ = some (.slice A0_3 l0_3.length c0_3) := (blk_cell BK101.out 3).trans rfl
                                      have hfz38_0 := blk_frozen BK101.out 0
                                      have hfz38_1 := blk_frozen BK101.out 1
                                      have hfz38_2 := blk_frozen BK101.out 2
                                      have hfz38_3 := blk_frozen BK101.out 3
                                      go_wp2
                                      go_ret
                                      exact ⟨by first | rfl | (simp [errW_none, errW_some] <;> rfl) | (simp only [← hji2]; first | rfl | (simp [errW_none, errW_some] <;> rfl)) | (simp [*, errW_none, errW_some] <;> rfl), by repeat (first | (with_reducible first | exact HB.out | apply below_alloc | apply pw_below_drewN | apply below_drew1 | refine below_set ?_ GE101.out) | exact HB.out)⟩
                              · rw [if_neg c32] at H
                                have c32b0 : (a0_0 == 27) = false := beq_eq_false_iff_ne.mpr c32
                                have c32b1 : (a0_0 != 27) = true := bne_iff_ne.mpr c32
                                obtain rfl := Option.some.inj H
                                go_wp2
                                go_ret
                                exact ⟨by first | rfl | (simp [errW_none, errW_some] <;> rfl) | (simp only [← hji2]; first | rfl | (simp [errW_none, errW_some] <;> rfl)) | (simp [*, errW_none, errW_some] <;> rfl), by repeat (first | (with_reducible first | exact HB.out | apply below_alloc | apply pw_below_drewN | apply below_drew1 | refine below_set ?_ GE101.out) | exact HB.out)⟩

end Go.Proofs.YtfkfgjmhcfagkaaDoor.Print
