/- The walk of TraceChecks. -/
import Derived.Test.YtiapfhlipoomaaaDoorGivenRD
import Derived.Test.YtiapfhlipoomaaaDoorGivenQ
import Derived.Deep.RegionHeld3
namespace Go.Proofs.YtiapfhlipoomaaaDoor.Given
open Go.RowKit Go.Proofs.YtiapfhlipoomaaaDoorW.PrintWords Go.Proofs.YtiapfhlipoomaaaDoorW.PrintLast Go.Proofs.YtiapfhlipoomaaaDoorW.PrintMore Go.Proofs.YtiapfhlipoomaaaDoor.Print
set_option linter.unusedVariables false
set_option linter.unusedSimpArgs false

set_option maxRecDepth 100000 in
set_option maxHeartbeats 4000000 in
theorem checks_walk (x : S24) (A : Option Addr) (cap : Nat) (w : World) (hr : Kd.C (Kd.int .i64) w A x.f7.length x.f7) (hc : x.f7.length ≤ cap) (hL : LW w) :
    Calls Tryd.prog 3 #[evV x A cap] w fun e w' => e = .returned (.bool true) ∧ Below w.heap.size w w' := by
  have hu24 := Tryd.underlying24
  have HB := Aside0.mk (Below.refl w.heap.size w)
  have HR := Aside0.mk hr
  have HC := Aside0.mk hc
  have HL := Aside0.mk hL
  obtain ⟨c, hcc⟩ : ∃ c, c = checkOf x := ⟨_, rfl⟩
  have HCC := Aside0.mk hcc
  clear hr hc hL hcc
  go_enter Tryd.func3, Tryd.ntmps3
  go_wp2_with ((with_reducible refine gate_dst (N := 1) rfl ?_); refine box_event ?hg (N := 1) ?hd (cs := evC x (.slice A x.f7.length cap)) (t := 24) ?hr ?_; (case hd => rfl); (case hg => rfl); (case hr => first | (go_simp; done) | (go_simp; rfl)); intro g1 hg w1 hbox hb; have n0_ := Aside0.mk (below_step HB.out hb); clear HB; have HB := n0_; clear n0_; have BX := Aside0.mk hbox; clear hbox hb hg; have x0 : w1.cell? ⟨g1, 0, none⟩ = some (.int .i64 x.f0) := (blk_cell BX.out 0).trans rfl; have x1 : w1.cell? ⟨g1, 1, none⟩ = some (.int .i64 x.f1) := (blk_cell BX.out 1).trans rfl; have x2 : w1.cell? ⟨g1, 2, none⟩ = some (.int .i64 x.f2) := (blk_cell BX.out 2).trans rfl; have x3 : w1.cell? ⟨g1, 3, none⟩ = some (.int .i64 x.f3) := (blk_cell BX.out 3).trans rfl; have x4 : w1.cell? ⟨g1, 4, none⟩ = some (.int .i64 x.f4) := (blk_cell BX.out 4).trans rfl; have x5 : w1.cell? ⟨g1, 5, none⟩ = some (.int .i64 x.f5) := (blk_cell BX.out 5).trans rfl; have x6 : w1.cell? ⟨g1, 6, none⟩ = some (.int .i64 x.f6) := (blk_cell BX.out 6).trans rfl; have x7 : w1.cell? ⟨g1, 7, none⟩ = some (.slice A x.f7.length cap) := (blk_cell BX.out 7).trans rfl)
  go_region_with (first
    | (go_at_call 9; refine (shown_true _ (HL.out.below (below_drew1 HB.out))).mono ?_; rintro e w2 ⟨rfl, hb⟩; have n0_ := Aside0.mk (below_step (below_drew1 HB.out) hb); have n1_ := Aside0.mk (blk_below (blk_drew BX.out) hb); clear HB BX hb x0 x1 x2 x3 x4 x5 x6 x7; have HB := n0_; have BX := n1_; clear n0_ n1_; have x0 : w2.cell? ⟨g1, 0, none⟩ = some (.int .i64 x.f0) := (blk_cell BX.out 0).trans rfl; have x1 : w2.cell? ⟨g1, 1, none⟩ = some (.int .i64 x.f1) := (blk_cell BX.out 1).trans rfl; have x2 : w2.cell? ⟨g1, 2, none⟩ = some (.int .i64 x.f2) := (blk_cell BX.out 2).trans rfl; have x3 : w2.cell? ⟨g1, 3, none⟩ = some (.int .i64 x.f3) := (blk_cell BX.out 3).trans rfl; have x4 : w2.cell? ⟨g1, 4, none⟩ = some (.int .i64 x.f4) := (blk_cell BX.out 4).trans rfl; have x5 : w2.cell? ⟨g1, 5, none⟩ = some (.int .i64 x.f5) := (blk_cell BX.out 5).trans rfl; have x6 : w2.cell? ⟨g1, 6, none⟩ = some (.int .i64 x.f6) := (blk_cell BX.out 6).trans rfl; have x7 : w2.cell? ⟨g1, 7, none⟩ = some (.slice A x.f7.length cap) := (blk_cell BX.out 7).trans rfl)
    | (go_at_call 10; refine (chk_any x A cap _ (Kd.C_below HR.out HB.out) HC.out).mono ?_; rw [← HCC.out]; rintro e w3 ⟨rfl, hb⟩; have n0_ := Aside0.mk (below_step HB.out hb); have n1_ := Aside0.mk (blk_below BX.out hb); clear HB BX hb x0 x1 x2 x3 x4 x5 x6 x7; have HB := n0_; have BX := n1_; clear n0_ n1_; have x0 : w3.cell? ⟨g1, 0, none⟩ = some (.int .i64 x.f0) := (blk_cell BX.out 0).trans rfl; have x1 : w3.cell? ⟨g1, 1, none⟩ = some (.int .i64 x.f1) := (blk_cell BX.out 1).trans rfl; have x2 : w3.cell? ⟨g1, 2, none⟩ = some (.int .i64 x.f2) := (blk_cell BX.out 2).trans rfl; have x3 : w3.cell? ⟨g1, 3, none⟩ = some (.int .i64 x.f3) := (blk_cell BX.out 3).trans rfl; have x4 : w3.cell? ⟨g1, 4, none⟩ = some (.int .i64 x.f4) := (blk_cell BX.out 4).trans rfl; have x5 : w3.cell? ⟨g1, 5, none⟩ = some (.int .i64 x.f5) := (blk_cell BX.out 5).trans rfl; have x6 : w3.cell? ⟨g1, 6, none⟩ = some (.int .i64 x.f6) := (blk_cell BX.out 6).trans rfl; have x7 : w3.cell? ⟨g1, 7, none⟩ = some (.slice A x.f7.length cap) := (blk_cell BX.out 7).trans rfl)
    | (go_at_call 11; refine (ref_any x A cap _ (Kd.C_below HR.out HB.out) HC.out).mono ?_; rw [← HCC.out]; rintro e w4 ⟨rfl, hb⟩; have n0_ := Aside0.mk (below_step HB.out hb); have n1_ := Aside0.mk (blk_below BX.out hb); clear HB BX hb x0 x1 x2 x3 x4 x5 x6 x7; have HB := n0_; have BX := n1_; clear n0_ n1_; have x0 : w4.cell? ⟨g1, 0, none⟩ = some (.int .i64 x.f0) := (blk_cell BX.out 0).trans rfl; have x1 : w4.cell? ⟨g1, 1, none⟩ = some (.int .i64 x.f1) := (blk_cell BX.out 1).trans rfl; have x2 : w4.cell? ⟨g1, 2, none⟩ = some (.int .i64 x.f2) := (blk_cell BX.out 2).trans rfl; have x3 : w4.cell? ⟨g1, 3, none⟩ = some (.int .i64 x.f3) := (blk_cell BX.out 3).trans rfl; have x4 : w4.cell? ⟨g1, 4, none⟩ = some (.int .i64 x.f4) := (blk_cell BX.out 4).trans rfl; have x5 : w4.cell? ⟨g1, 5, none⟩ = some (.int .i64 x.f5) := (blk_cell BX.out 5).trans rfl; have x6 : w4.cell? ⟨g1, 6, none⟩ = some (.int .i64 x.f6) := (blk_cell BX.out 6).trans rfl; have x7 : w4.cell? ⟨g1, 7, none⟩ = some (.slice A x.f7.length cap) := (blk_cell BX.out 7).trans rfl))
  all_goals go_wp2_with (fail)
  all_goals go_returns
  all_goals exact ⟨rfl, HB.out⟩
end Go.Proofs.YtiapfhlipoomaaaDoor.Given
