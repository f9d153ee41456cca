/- trace.Check at the kinds with a word of some. -/
import Derived.Test.YtiapfhlipoomaaaDoorGivenBN
import Derived.Test.YtiapfhlipoomaaaDoorGivenE
import Derived.Test.YtiapfhlipoomaaaDoorPlainC
namespace Go.Proofs.YtiapfhlipoomaaaDoor.Given
open Go.RowKit Go.Proofs.YtiapfhlipoomaaaDoorW.PrintWords Go.Proofs.YtiapfhlipoomaaaDoorW.PrintLast Go.Proofs.YtiapfhlipoomaaaDoorW.PrintMore Go.Proofs.YtiapfhlipoomaaaDoor.Print
set_option linter.unusedVariables false
set_option linter.unusedSimpArgs false

theorem fo_c2 (k : Nat) (h : clsK k = 2) : foK k = [1] := by
  unfold clsK at h
  split at h <;> first | rfl | cases h
theorem ok_c2 (k : Nat) (h : clsK k = 2) (x : S24) : okK k x = decide (0 ≤ x.f1 ∧ 1 ≤ x.f6 ∧ x.f6 < ((wsK k).length : Int) ∧ x.f2 = 0 ∧ x.f3 = 0 ∧ x.f4 = 0 ∧ x.f5 = 0 ∧ x.f7 = []) := by
  unfold clsK at h
  split at h <;> first | rfl | cases h
set_option maxRecDepth 100000 in
set_option maxHeartbeats 8000000 in
theorem check_c2_neg (k : Nat) (h1 : 1 ≤ k) (h2 : k ≤ 11) (hc : clsK k = 2) (x : S24) (hk : x.f0 = k) (A : Option Addr) (cap : Nat) (w : World) (hr : Kd.C (Kd.int .i64) w A x.f7.length x.f7) (hcap : x.f7.length ≤ cap) (hn : x.f1 < 0) :
    Calls Tryd.prog 10 #[evV x A cap] w fun e w' => e = .returned (.int .i64 180) ∧ Below w.heap.size w w' := by
  have hu24 := Tryd.underlying24
  have hu48 := Tryd.underlying48
  have hu46 := Tryd.underlying46
  have HR := Aside0.mk hr
  have HCAP := Aside0.mk hcap
  have HCL := Aside0.mk hc
  have HKK := Aside0.mk hk
  have hfo := fo_c2 k hc
  have HFO := Aside0.mk hfo
  have hwl := ws_len2 k
  have T1 := Aside0.mk True.intro
  clear hr hcap hc hk hfo
  have dn : decide (x.f1 < 0) = true := decide_eq_true hn
  clear hn
  go_enter Tryd.func10, Tryd.ntmps10
  go_upto_region 6 with (first
    | (go_at_call 23; clear T1; refine (form_c2 k h1 h2 HCL.out _ x (.slice A x.f7.length cap) _ HKK.out (hp_lt _ _ _ _ (heap_alloc_new _ _))).mono ?_; rintro e w1 ⟨_, bW, rfl, ⟨AF, rfl, hF⟩, hW, hb⟩; have BE := Aside0.mk (blk_below (hp_lt _ _ _ _ (heap_alloc_new w (.cells (evC x (.slice A x.f7.length cap)) 24))) hb); have BO := Aside0.mk (blk_below (hp_new _ (.cells (evC ⟨x.f0, 0, 0, 0, 0, 0, 0, []⟩ (.slice none 0 0)) 24) (w.heap.size + 1) (by rw [size_alloc])) hb); have BW := Aside0.mk hW; have FF := Aside0.mk hF; have HZ := Aside0.mk ((bel2 w (.cells (evC x (.slice A x.f7.length cap)) 24) (.cells (evC ⟨x.f0, 0, 0, 0, 0, 0, 0, []⟩ (.slice none 0 0)) 24)).trans (hb.mono (by rw [size_alloc, size_alloc]; omega))); clear hW hF hb)
    | (go_at_call 23; refine (form_c2 k h1 h2 HCL.out _ (⟨x.f0, 0, 0, 0, 0, 0, 0, []⟩ : S24) (.slice none 0 0) _ HKK.out (hp_lt _ _ _ _ BO.out)).mono ?_; rintro e w2 ⟨_, bX, rfl, ⟨AG, rfl, hG⟩, hX, hb⟩; have BF := Aside0.mk (blk_below (heap_alloc_new w1 (.cells #[.string (wordB k), .slice AF (foK k).length (foK k).length, .pointer none, .slice (some ⟨bW, 0, none⟩) (wsK k).length (wsK k).length, .pointer (some ⟨w.heap.size, 6, none⟩), .bool false] 48)) hb); have hb1 := (bel1 w1 (.cells #[.string (wordB k), .slice AF (foK k).length (foK k).length, .pointer none, .slice (some ⟨bW, 0, none⟩) (wsK k).length (wsK k).length, .pointer (some ⟨w.heap.size, 6, none⟩), .bool false] 48)).trans (hb.mono (by rw [size_alloc]; omega)); have n1_ := Aside0.mk (blk_below BE.out hb1); have n2_ := Aside0.mk (blk_below BO.out hb1); have n3_ := Aside0.mk (blk_below BW.out hb1); have n4_ := Aside0.mk (fun j o hj => by obtain ⟨ad, e1, e2, e3⟩ := FF.out j o hj; exact ⟨ad, e1, e2, pw_cell_below hb1 e3⟩ : ∀ (j o : Nat), (foK k)[j]? = some o → ∃ ad, AF = some ad ∧ ad.block ≠ w.heap.size ∧ w2.cell? (ad.add j) = some (.pointer (some ⟨w.heap.size, o, none⟩))); have n5_ := Aside0.mk (HZ.out.trans (hb1.mono HZ.out.size)); clear BE BO BW FF HZ hb1; have BE := n1_; have BO := n2_; have BW := n3_; have FF := n4_; have HZ := n5_; have GG := Aside0.mk hG; clear n1_ n2_ n3_ n4_ n5_ hG hX hb))
  have BG := Aside0.mk (heap_alloc_new w2 (.cells #[.string (wordB k), .slice AG (foK k).length (foK k).length, .pointer none, .slice (some ⟨bX, 0, none⟩) (wsK k).length (wsK k).length, .pointer (some ⟨w.heap.size + 1, 6, none⟩), .bool false] 48))
  have hb2 := bel1 w2 (.cells #[.string (wordB k), .slice AG (foK k).length (foK k).length, .pointer none, .slice (some ⟨bX, 0, none⟩) (wsK k).length (wsK k).length, .pointer (some ⟨w.heap.size + 1, 6, none⟩), .bool false] 48)
  have n1_ := Aside0.mk (blk_below BE.out hb2)
  have n2_ := Aside0.mk (blk_below BO.out hb2)
  have n3_ := Aside0.mk (blk_below BW.out hb2)
  have n6_ := Aside0.mk (blk_below BF.out hb2)
  have n5_ := Aside0.mk (HZ.out.trans (hb2.mono HZ.out.size))
  obtain ⟨ad1, hA1, hn1, hc1⟩ := FF.out 0 1 (by rw [HFO.out]; rfl)
  obtain ⟨ad2, hA2, hn2, hc2⟩ := GG.out 0 1 (by rw [HFO.out]; rfl)
  have x1 := Aside0.mk (pw_cell_below hb2 hc1)
  have x2 := Aside0.mk (pw_cell_below hb2 hc2)
  have N1 := Aside0.mk hn1
  have N2 := Aside0.mk hn2
  clear hb2 hc1 hc2 hn1 hn2 FF GG BE BO BW BF HZ
  generalize w1.heap.size = g4 at n6_ ⊢
  generalize w2.heap.size = g6 at BG ⊢
  generalize w2.alloc (.cells #[.string (wordB k), .slice AG (foK k).length (foK k).length, .pointer none, .slice (some ⟨bX, 0, none⟩) (wsK k).length (wsK k).length, .pointer (some ⟨w.heap.size + 1, 6, none⟩), .bool false] 48) = wz at *
  have BE := n1_
  have BO := n2_
  have BW := n3_
  have BF := n6_
  have HZ := n5_
  clear n1_ n2_ n3_ n5_ n6_
  subst hA1 hA2
  have y1 : wz.cell? ⟨g4, 1, none⟩ = some (.slice (some ad1) (foK k).length (foK k).length) := (blk_cell BF.out 1).trans rfl
  have y2 : wz.cell? ⟨g4, 2, none⟩ = some (.pointer none) := (blk_cell BF.out 2).trans rfl
  have y3 : wz.cell? ⟨g4, 3, none⟩ = some (.slice (some ⟨bW, 0, none⟩) (wsK k).length (wsK k).length) := (blk_cell BF.out 3).trans rfl
  have y4 : wz.cell? ⟨g4, 4, none⟩ = some (.pointer (some ⟨w.heap.size, 6, none⟩)) := (blk_cell BF.out 4).trans rfl
  have y5 : wz.cell? ⟨g4, 5, none⟩ = some (.bool false) := (blk_cell BF.out 5).trans rfl
  have z1 : wz.cell? ⟨g6, 1, none⟩ = some (.slice (some ad2) (foK k).length (foK k).length) := (blk_cell BG.out 1).trans rfl
  have z4 : wz.cell? ⟨g6, 4, none⟩ = some (.pointer (some ⟨w.heap.size + 1, 6, none⟩)) := (blk_cell BG.out 4).trans rfl
  rw [HFO.out] at y1 z1 ⊢
  have p1 : wz.cell? ad1 = some (.pointer (some ⟨w.heap.size, 1, none⟩)) := x1.out
  have p2 : wz.cell? ad2 = some (.pointer (some ⟨w.heap.size + 1, 1, none⟩)) := x2.out
  have e1 : wz.cell? ⟨w.heap.size, 1, none⟩ = some (.int .i64 x.f1) := (blk_cell BE.out 1).trans rfl
  have e6 : wz.cell? ⟨w.heap.size, 6, none⟩ = some (.int .i64 x.f6) := (blk_cell BE.out 6).trans rfl
  have o1 : wz.cell? ⟨w.heap.size + 1, 1, none⟩ = some (.int .i64 0) := (blk_cell BO.out 1).trans rfl
  have q1 : wz.frozen? ⟨w.heap.size + 1, 1, none⟩ = false := Lib.frozen_of_heap BO.out 1
  go_wp2_with (fail)
  refine wp_loop_rounds 2 ?_
  rw [rounds_succ]
  go_wp2_with (fail)
  go_ret
  exact ⟨rfl, HZ.out⟩
set_option maxRecDepth 100000 in
set_option maxHeartbeats 8000000 in
theorem check_c2_lo (k : Nat) (h1 : 1 ≤ k) (h2 : k ≤ 11) (hc : clsK k = 2) (x : S24) (hk : x.f0 = k) (A : Option Addr) (cap : Nat) (w : World) (hr : Kd.C (Kd.int .i64) w A x.f7.length x.f7) (hcap : x.f7.length ≤ cap) (hn : ¬ x.f1 < 0) (hm : x.f6 < 1) :
    Calls Tryd.prog 10 #[evV x A cap] w fun e w' => e = .returned (.int .i64 180) ∧ Below w.heap.size w w' := by
  have hu24 := Tryd.underlying24
  have hu48 := Tryd.underlying48
  have hu46 := Tryd.underlying46
  have HR := Aside0.mk hr
  have HCAP := Aside0.mk hcap
  have HCL := Aside0.mk hc
  have HKK := Aside0.mk hk
  have hfo := fo_c2 k hc
  have HFO := Aside0.mk hfo
  have hwl := ws_len2 k
  have T1 := Aside0.mk True.intro
  clear hr hcap hc hk hfo
  have dn : decide (x.f1 < 0) = false := decide_eq_false hn
  have d6 : decide (x.f6 < 1) = true := decide_eq_true hm
  clear hn hm
  go_enter Tryd.func10, Tryd.ntmps10
  go_upto_region 6 with (first
    | (go_at_call 23; clear T1; refine (form_c2 k h1 h2 HCL.out _ x (.slice A x.f7.length cap) _ HKK.out (hp_lt _ _ _ _ (heap_alloc_new _ _))).mono ?_; rintro e w1 ⟨_, bW, rfl, ⟨AF, rfl, hF⟩, hW, hb⟩; have BE := Aside0.mk (blk_below (hp_lt _ _ _ _ (heap_alloc_new w (.cells (evC x (.slice A x.f7.length cap)) 24))) hb); have BO := Aside0.mk (blk_below (hp_new _ (.cells (evC ⟨x.f0, 0, 0, 0, 0, 0, 0, []⟩ (.slice none 0 0)) 24) (w.heap.size + 1) (by rw [size_alloc])) hb); have BW := Aside0.mk hW; have FF := Aside0.mk hF; have HZ := Aside0.mk ((bel2 w (.cells (evC x (.slice A x.f7.length cap)) 24) (.cells (evC ⟨x.f0, 0, 0, 0, 0, 0, 0, []⟩ (.slice none 0 0)) 24)).trans (hb.mono (by rw [size_alloc, size_alloc]; omega))); clear hW hF hb)
    | (go_at_call 23; refine (form_c2 k h1 h2 HCL.out _ (⟨x.f0, 0, 0, 0, 0, 0, 0, []⟩ : S24) (.slice none 0 0) _ HKK.out (hp_lt _ _ _ _ BO.out)).mono ?_; rintro e w2 ⟨_, bX, rfl, ⟨AG, rfl, hG⟩, hX, hb⟩; have BF := Aside0.mk (blk_below (heap_alloc_new w1 (.cells #[.string (wordB k), .slice AF (foK k).length (foK k).length, .pointer none, .slice (some ⟨bW, 0, none⟩) (wsK k).length (wsK k).length, .pointer (some ⟨w.heap.size, 6, none⟩), .bool false] 48)) hb); have hb1 := (bel1 w1 (.cells #[.string (wordB k), .slice AF (foK k).length (foK k).length, .pointer none, .slice (some ⟨bW, 0, none⟩) (wsK k).length (wsK k).length, .pointer (some ⟨w.heap.size, 6, none⟩), .bool false] 48)).trans (hb.mono (by rw [size_alloc]; omega)); have n1_ := Aside0.mk (blk_below BE.out hb1); have n2_ := Aside0.mk (blk_below BO.out hb1); have n3_ := Aside0.mk (blk_below BW.out hb1); have n4_ := Aside0.mk (fun j o hj => by obtain ⟨ad, e1, e2, e3⟩ := FF.out j o hj; exact ⟨ad, e1, e2, pw_cell_below hb1 e3⟩ : ∀ (j o : Nat), (foK k)[j]? = some o → ∃ ad, AF = some ad ∧ ad.block ≠ w.heap.size ∧ w2.cell? (ad.add j) = some (.pointer (some ⟨w.heap.size, o, none⟩))); have n5_ := Aside0.mk (HZ.out.trans (hb1.mono HZ.out.size)); clear BE BO BW FF HZ hb1; have BE := n1_; have BO := n2_; have BW := n3_; have FF := n4_; have HZ := n5_; have GG := Aside0.mk hG; clear n1_ n2_ n3_ n4_ n5_ hG hX hb))
  have BG := Aside0.mk (heap_alloc_new w2 (.cells #[.string (wordB k), .slice AG (foK k).length (foK k).length, .pointer none, .slice (some ⟨bX, 0, none⟩) (wsK k).length (wsK k).length, .pointer (some ⟨w.heap.size + 1, 6, none⟩), .bool false] 48))
  have hb2 := bel1 w2 (.cells #[.string (wordB k), .slice AG (foK k).length (foK k).length, .pointer none, .slice (some ⟨bX, 0, none⟩) (wsK k).length (wsK k).length, .pointer (some ⟨w.heap.size + 1, 6, none⟩), .bool false] 48)
  have n1_ := Aside0.mk (blk_below BE.out hb2)
  have n2_ := Aside0.mk (blk_below BO.out hb2)
  have n3_ := Aside0.mk (blk_below BW.out hb2)
  have n6_ := Aside0.mk (blk_below BF.out hb2)
  have n5_ := Aside0.mk (HZ.out.trans (hb2.mono HZ.out.size))
  obtain ⟨ad1, hA1, hn1, hc1⟩ := FF.out 0 1 (by rw [HFO.out]; rfl)
  obtain ⟨ad2, hA2, hn2, hc2⟩ := GG.out 0 1 (by rw [HFO.out]; rfl)
  have x1 := Aside0.mk (pw_cell_below hb2 hc1)
  have x2 := Aside0.mk (pw_cell_below hb2 hc2)
  have N1 := Aside0.mk hn1
  have N2 := Aside0.mk hn2
  clear hb2 hc1 hc2 hn1 hn2 FF GG BE BO BW BF HZ
  generalize w1.heap.size = g4 at n6_ ⊢
  generalize w2.heap.size = g6 at BG ⊢
  generalize w2.alloc (.cells #[.string (wordB k), .slice AG (foK k).length (foK k).length, .pointer none, .slice (some ⟨bX, 0, none⟩) (wsK k).length (wsK k).length, .pointer (some ⟨w.heap.size + 1, 6, none⟩), .bool false] 48) = wz at *
  have BE := n1_
  have BO := n2_
  have BW := n3_
  have BF := n6_
  have HZ := n5_
  clear n1_ n2_ n3_ n5_ n6_
  subst hA1 hA2
  have y1 : wz.cell? ⟨g4, 1, none⟩ = some (.slice (some ad1) (foK k).length (foK k).length) := (blk_cell BF.out 1).trans rfl
  have y2 : wz.cell? ⟨g4, 2, none⟩ = some (.pointer none) := (blk_cell BF.out 2).trans rfl
  have y3 : wz.cell? ⟨g4, 3, none⟩ = some (.slice (some ⟨bW, 0, none⟩) (wsK k).length (wsK k).length) := (blk_cell BF.out 3).trans rfl
  have y4 : wz.cell? ⟨g4, 4, none⟩ = some (.pointer (some ⟨w.heap.size, 6, none⟩)) := (blk_cell BF.out 4).trans rfl
  have y5 : wz.cell? ⟨g4, 5, none⟩ = some (.bool false) := (blk_cell BF.out 5).trans rfl
  have z1 : wz.cell? ⟨g6, 1, none⟩ = some (.slice (some ad2) (foK k).length (foK k).length) := (blk_cell BG.out 1).trans rfl
  have z4 : wz.cell? ⟨g6, 4, none⟩ = some (.pointer (some ⟨w.heap.size + 1, 6, none⟩)) := (blk_cell BG.out 4).trans rfl
  rw [HFO.out] at y1 z1 ⊢
  have p1 : wz.cell? ad1 = some (.pointer (some ⟨w.heap.size, 1, none⟩)) := x1.out
  have p2 : wz.cell? ad2 = some (.pointer (some ⟨w.heap.size + 1, 1, none⟩)) := x2.out
  have e1 : wz.cell? ⟨w.heap.size, 1, none⟩ = some (.int .i64 x.f1) := (blk_cell BE.out 1).trans rfl
  have e6 : wz.cell? ⟨w.heap.size, 6, none⟩ = some (.int .i64 x.f6) := (blk_cell BE.out 6).trans rfl
  have o1 : wz.cell? ⟨w.heap.size + 1, 1, none⟩ = some (.int .i64 0) := (blk_cell BO.out 1).trans rfl
  have q1 : wz.frozen? ⟨w.heap.size + 1, 1, none⟩ = false := Lib.frozen_of_heap BO.out 1
  go_wp2_with (fail)
  refine wp_loop_rounds 2 ?_
  rw [rounds_succ]
  go_wp2_with (fail)
  go_region
  have NE4 := Aside0.mk (show g4 ≠ w.heap.size + 1 by rintro rfl; have h1 := BF.out.symm.trans BO.out; injection h1 with h1; injection h1 with _ h2 _; cases h2)
  have NE6 := Aside0.mk (show g6 ≠ w.heap.size + 1 by rintro rfl; have h1 := BG.out.symm.trans BO.out; injection h1 with h1; injection h1 with _ h2 _; cases h2)
  go_wp2_with (fail)
  clear y1 y2 y3 y4 y5 z1 z4 p1 p2 e1 e6 o1 q1
  have n1_ : Aside0 (((wz.setCell ⟨w.heap.size + 1, 1, none⟩ (.int .i64 x.f1)).drew).heap[w.heap.size]? = some (.cells (evC x (.slice A x.f7.length cap)) 24 (0, 0))) := ⟨hp_setne wz _ _ _ 1 _ (by omega) BE.out⟩
  have n2_ : Aside0 (((wz.setCell ⟨w.heap.size + 1, 1, none⟩ (.int .i64 x.f1)).drew).heap[w.heap.size + 1]? = some (.cells (evC ⟨x.f0, x.f1, 0, 0, 0, 0, 0, []⟩ (.slice none 0 0)) 24 (0, 0))) := ⟨blk_put (w := wz) BO.out 1 _ rfl⟩
  have n3_ : Aside0 (((wz.setCell ⟨w.heap.size + 1, 1, none⟩ (.int .i64 x.f1)).drew).heap[g4]? = some (.cells #[.string (wordB k), .slice (some ad1) (foK k).length (foK k).length, .pointer none, .slice (some ⟨bW, 0, none⟩) (wsK k).length (wsK k).length, .pointer (some ⟨w.heap.size, 6, none⟩), .bool false] 48 (0, 0))) := ⟨hp_setne wz _ _ _ 1 _ NE4.out BF.out⟩
  have n4_ : Aside0 (((wz.setCell ⟨w.heap.size + 1, 1, none⟩ (.int .i64 x.f1)).drew).heap[g6]? = some (.cells #[.string (wordB k), .slice (some ad2) (foK k).length (foK k).length, .pointer none, .slice (some ⟨bX, 0, none⟩) (wsK k).length (wsK k).length, .pointer (some ⟨w.heap.size + 1, 6, none⟩), .bool false] 48 (0, 0))) := ⟨hp_setne wz _ _ _ 1 _ NE6.out BG.out⟩
  have n5_ : Aside0 (Below w.heap.size w ((wz.setCell ⟨w.heap.size + 1, 1, none⟩ (.int .i64 x.f1)).drew)) := ⟨below_drew (Below.setCell HZ.out (p := ⟨w.heap.size + 1, 1, none⟩) (Nat.le_succ _) _)⟩
  clear BE BO BF BG HZ
  generalize (wz.setCell ⟨w.heap.size + 1, 1, none⟩ (.int .i64 x.f1)).drew = wy at n1_ n2_ n3_ n4_ n5_ ⊢
  have BE := n1_
  have BO := n2_
  have BF := n3_
  have BG := n4_
  have HZ := n5_
  clear n1_ n2_ n3_ n4_ n5_
  have y2 : wy.cell? ⟨g4, 2, none⟩ = some (.pointer none) := (blk_cell BF.out 2).trans rfl
  have y3 : wy.cell? ⟨g4, 3, none⟩ = some (.slice (some ⟨bW, 0, none⟩) (wsK k).length (wsK k).length) := (blk_cell BF.out 3).trans rfl
  have y4 : wy.cell? ⟨g4, 4, none⟩ = some (.pointer (some ⟨w.heap.size, 6, none⟩)) := (blk_cell BF.out 4).trans rfl
  have y5 : wy.cell? ⟨g4, 5, none⟩ = some (.bool false) := (blk_cell BF.out 5).trans rfl
  have z4 : wy.cell? ⟨g6, 4, none⟩ = some (.pointer (some ⟨w.heap.size + 1, 6, none⟩)) := (blk_cell BG.out 4).trans rfl
  have e6 : wy.cell? ⟨w.heap.size, 6, none⟩ = some (.int .i64 x.f6) := (blk_cell BE.out 6).trans rfl
  have o6 : wy.cell? ⟨w.heap.size + 1, 6, none⟩ = some (.int .i64 0) := (blk_cell BO.out 6).trans rfl
  have q6 : wy.frozen? ⟨w.heap.size + 1, 6, none⟩ = false := Lib.frozen_of_heap BO.out 6
  rw [rounds_succ]
  go_wp2_with (fail)
  go_quiet (fail)
  all_goals go_wp2_with (fail)
  all_goals go_ret
  all_goals exact ⟨rfl, pw_below_drewN HZ.out _⟩
set_option maxRecDepth 100000 in
set_option maxHeartbeats 8000000 in
theorem check_c2_hi (k : Nat) (h1 : 1 ≤ k) (h2 : k ≤ 11) (hc : clsK k = 2) (x : S24) (hk : x.f0 = k) (A : Option Addr) (cap : Nat) (w : World) (hr : Kd.C (Kd.int .i64) w A x.f7.length x.f7) (hcap : x.f7.length ≤ cap) (hn : ¬ x.f1 < 0) (hm : ¬ x.f6 < 1) (hw : ((wsK k).length : Int) ≤ x.f6) :
    Calls Tryd.prog 10 #[evV x A cap] w fun e w' => e = .returned (.int .i64 180) ∧ Below w.heap.size w w' := by
  have hu24 := Tryd.underlying24
  have hu48 := Tryd.underlying48
  have hu46 := Tryd.underlying46
  have HR := Aside0.mk hr
  have HCAP := Aside0.mk hcap
  have HCL := Aside0.mk hc
  have HKK := Aside0.mk hk
  have hfo := fo_c2 k hc
  have HFO := Aside0.mk hfo
  have hwl := ws_len2 k
  have T1 := Aside0.mk True.intro
  clear hr hcap hc hk hfo
  have dn : decide (x.f1 < 0) = false := decide_eq_false hn
  have d6 : decide (x.f6 < 1) = false := decide_eq_false hm
  have d7 : decide (((wsK k).length : Int) ≤ x.f6) = true := decide_eq_true hw
  clear hn hm hw
  go_enter Tryd.func10, Tryd.ntmps10
  go_upto_region 6 with (first
    | (go_at_call 23; clear T1; refine (form_c2 k h1 h2 HCL.out _ x (.slice A x.f7.length cap) _ HKK.out (hp_lt _ _ _ _ (heap_alloc_new _ _))).mono ?_; rintro e w1 ⟨_, bW, rfl, ⟨AF, rfl, hF⟩, hW, hb⟩; have BE := Aside0.mk (blk_below (hp_lt _ _ _ _ (heap_alloc_new w (.cells (evC x (.slice A x.f7.length cap)) 24))) hb); have BO := Aside0.mk (blk_below (hp_new _ (.cells (evC ⟨x.f0, 0, 0, 0, 0, 0, 0, []⟩ (.slice none 0 0)) 24) (w.heap.size + 1) (by rw [size_alloc])) hb); have BW := Aside0.mk hW; have FF := Aside0.mk hF; have HZ := Aside0.mk ((bel2 w (.cells (evC x (.slice A x.f7.length cap)) 24) (.cells (evC ⟨x.f0, 0, 0, 0, 0, 0, 0, []⟩ (.slice none 0 0)) 24)).trans (hb.mono (by rw [size_alloc, size_alloc]; omega))); clear hW hF hb)
    | (go_at_call 23; refine (form_c2 k h1 h2 HCL.out _ (⟨x.f0, 0, 0, 0, 0, 0, 0, []⟩ : S24) (.slice none 0 0) _ HKK.out (hp_lt _ _ _ _ BO.out)).mono ?_; rintro e w2 ⟨_, bX, rfl, ⟨AG, rfl, hG⟩, hX, hb⟩; have BF := Aside0.mk (blk_below (heap_alloc_new w1 (.cells #[.string (wordB k), .slice AF (foK k).length (foK k).length, .pointer none, .slice (some ⟨bW, 0, none⟩) (wsK k).length (wsK k).length, .pointer (some ⟨w.heap.size, 6, none⟩), .bool false] 48)) hb); have hb1 := (bel1 w1 (.cells #[.string (wordB k), .slice AF (foK k).length (foK k).length, .pointer none, .slice (some ⟨bW, 0, none⟩) (wsK k).length (wsK k).length, .pointer (some ⟨w.heap.size, 6, none⟩), .bool false] 48)).trans (hb.mono (by rw [size_alloc]; omega)); have n1_ := Aside0.mk (blk_below BE.out hb1); have n2_ := Aside0.mk (blk_below BO.out hb1); have n3_ := Aside0.mk (blk_below BW.out hb1); have n4_ := Aside0.mk (fun j o hj => by obtain ⟨ad, e1, e2, e3⟩ := FF.out j o hj; exact ⟨ad, e1, e2, pw_cell_below hb1 e3⟩ : ∀ (j o : Nat), (foK k)[j]? = some o → ∃ ad, AF = some ad ∧ ad.block ≠ w.heap.size ∧ w2.cell? (ad.add j) = some (.pointer (some ⟨w.heap.size, o, none⟩))); have n5_ := Aside0.mk (HZ.out.trans (hb1.mono HZ.out.size)); clear BE BO BW FF HZ hb1; have BE := n1_; have BO := n2_; have BW := n3_; have FF := n4_; have HZ := n5_; have GG := Aside0.mk hG; clear n1_ n2_ n3_ n4_ n5_ hG hX hb))
  have BG := Aside0.mk (heap_alloc_new w2 (.cells #[.string (wordB k), .slice AG (foK k).length (foK k).length, .pointer none, .slice (some ⟨bX, 0, none⟩) (wsK k).length (wsK k).length, .pointer (some ⟨w.heap.size + 1, 6, none⟩), .bool false] 48))
  have hb2 := bel1 w2 (.cells #[.string (wordB k), .slice AG (foK k).length (foK k).length, .pointer none, .slice (some ⟨bX, 0, none⟩) (wsK k).length (wsK k).length, .pointer (some ⟨w.heap.size + 1, 6, none⟩), .bool false] 48)
  have n1_ := Aside0.mk (blk_below BE.out hb2)
  have n2_ := Aside0.mk (blk_below BO.out hb2)
  have n3_ := Aside0.mk (blk_below BW.out hb2)
  have n6_ := Aside0.mk (blk_below BF.out hb2)
  have n5_ := Aside0.mk (HZ.out.trans (hb2.mono HZ.out.size))
  obtain ⟨ad1, hA1, hn1, hc1⟩ := FF.out 0 1 (by rw [HFO.out]; rfl)
  obtain ⟨ad2, hA2, hn2, hc2⟩ := GG.out 0 1 (by rw [HFO.out]; rfl)
  have x1 := Aside0.mk (pw_cell_below hb2 hc1)
  have x2 := Aside0.mk (pw_cell_below hb2 hc2)
  have N1 := Aside0.mk hn1
  have N2 := Aside0.mk hn2
  clear hb2 hc1 hc2 hn1 hn2 FF GG BE BO BW BF HZ
  generalize w1.heap.size = g4 at n6_ ⊢
  generalize w2.heap.size = g6 at BG ⊢
  generalize w2.alloc (.cells #[.string (wordB k), .slice AG (foK k).length (foK k).length, .pointer none, .slice (some ⟨bX, 0, none⟩) (wsK k).length (wsK k).length, .pointer (some ⟨w.heap.size + 1, 6, none⟩), .bool false] 48) = wz at *
  have BE := n1_
  have BO := n2_
  have BW := n3_
  have BF := n6_
  have HZ := n5_
  clear n1_ n2_ n3_ n5_ n6_
  subst hA1 hA2
  have y1 : wz.cell? ⟨g4, 1, none⟩ = some (.slice (some ad1) (foK k).length (foK k).length) := (blk_cell BF.out 1).trans rfl
  have y2 : wz.cell? ⟨g4, 2, none⟩ = some (.pointer none) := (blk_cell BF.out 2).trans rfl
  have y3 : wz.cell? ⟨g4, 3, none⟩ = some (.slice (some ⟨bW, 0, none⟩) (wsK k).length (wsK k).length) := (blk_cell BF.out 3).trans rfl
  have y4 : wz.cell? ⟨g4, 4, none⟩ = some (.pointer (some ⟨w.heap.size, 6, none⟩)) := (blk_cell BF.out 4).trans rfl
  have y5 : wz.cell? ⟨g4, 5, none⟩ = some (.bool false) := (blk_cell BF.out 5).trans rfl
  have z1 : wz.cell? ⟨g6, 1, none⟩ = some (.slice (some ad2) (foK k).length (foK k).length) := (blk_cell BG.out 1).trans rfl
  have z4 : wz.cell? ⟨g6, 4, none⟩ = some (.pointer (some ⟨w.heap.size + 1, 6, none⟩)) := (blk_cell BG.out 4).trans rfl
  rw [HFO.out] at y1 z1 ⊢
  have p1 : wz.cell? ad1 = some (.pointer (some ⟨w.heap.size, 1, none⟩)) := x1.out
  have p2 : wz.cell? ad2 = some (.pointer (some ⟨w.heap.size + 1, 1, none⟩)) := x2.out
  have e1 : wz.cell? ⟨w.heap.size, 1, none⟩ = some (.int .i64 x.f1) := (blk_cell BE.out 1).trans rfl
  have e6 : wz.cell? ⟨w.heap.size, 6, none⟩ = some (.int .i64 x.f6) := (blk_cell BE.out 6).trans rfl
  have o1 : wz.cell? ⟨w.heap.size + 1, 1, none⟩ = some (.int .i64 0) := (blk_cell BO.out 1).trans rfl
  have q1 : wz.frozen? ⟨w.heap.size + 1, 1, none⟩ = false := Lib.frozen_of_heap BO.out 1
  go_wp2_with (fail)
  refine wp_loop_rounds 2 ?_
  rw [rounds_succ]
  go_wp2_with (fail)
  go_region
  have NE4 := Aside0.mk (show g4 ≠ w.heap.size + 1 by rintro rfl; have h1 := BF.out.symm.trans BO.out; injection h1 with h1; injection h1 with _ h2 _; cases h2)
  have NE6 := Aside0.mk (show g6 ≠ w.heap.size + 1 by rintro rfl; have h1 := BG.out.symm.trans BO.out; injection h1 with h1; injection h1 with _ h2 _; cases h2)
  go_wp2_with (fail)
  clear y1 y2 y3 y4 y5 z1 z4 p1 p2 e1 e6 o1 q1
  have n1_ : Aside0 (((wz.setCell ⟨w.heap.size + 1, 1, none⟩ (.int .i64 x.f1)).drew).heap[w.heap.size]? = some (.cells (evC x (.slice A x.f7.length cap)) 24 (0, 0))) := ⟨hp_setne wz _ _ _ 1 _ (by omega) BE.out⟩
  have n2_ : Aside0 (((wz.setCell ⟨w.heap.size + 1, 1, none⟩ (.int .i64 x.f1)).drew).heap[w.heap.size + 1]? = some (.cells (evC ⟨x.f0, x.f1, 0, 0, 0, 0, 0, []⟩ (.slice none 0 0)) 24 (0, 0))) := ⟨blk_put (w := wz) BO.out 1 _ rfl⟩
  have n3_ : Aside0 (((wz.setCell ⟨w.heap.size + 1, 1, none⟩ (.int .i64 x.f1)).drew).heap[g4]? = some (.cells #[.string (wordB k), .slice (some ad1) (foK k).length (foK k).length, .pointer none, .slice (some ⟨bW, 0, none⟩) (wsK k).length (wsK k).length, .pointer (some ⟨w.heap.size, 6, none⟩), .bool false] 48 (0, 0))) := ⟨hp_setne wz _ _ _ 1 _ NE4.out BF.out⟩
  have n4_ : Aside0 (((wz.setCell ⟨w.heap.size + 1, 1, none⟩ (.int .i64 x.f1)).drew).heap[g6]? = some (.cells #[.string (wordB k), .slice (some ad2) (foK k).length (foK k).length, .pointer none, .slice (some ⟨bX, 0, none⟩) (wsK k).length (wsK k).length, .pointer (some ⟨w.heap.size + 1, 6, none⟩), .bool false] 48 (0, 0))) := ⟨hp_setne wz _ _ _ 1 _ NE6.out BG.out⟩
  have n5_ : Aside0 (Below w.heap.size w ((wz.setCell ⟨w.heap.size + 1, 1, none⟩ (.int .i64 x.f1)).drew)) := ⟨below_drew (Below.setCell HZ.out (p := ⟨w.heap.size + 1, 1, none⟩) (Nat.le_succ _) _)⟩
  clear BE BO BF BG HZ
  generalize (wz.setCell ⟨w.heap.size + 1, 1, none⟩ (.int .i64 x.f1)).drew = wy at n1_ n2_ n3_ n4_ n5_ ⊢
  have BE := n1_
  have BO := n2_
  have BF := n3_
  have BG := n4_
  have HZ := n5_
  clear n1_ n2_ n3_ n4_ n5_
  have y2 : wy.cell? ⟨g4, 2, none⟩ = some (.pointer none) := (blk_cell BF.out 2).trans rfl
  have y3 : wy.cell? ⟨g4, 3, none⟩ = some (.slice (some ⟨bW, 0, none⟩) (wsK k).length (wsK k).length) := (blk_cell BF.out 3).trans rfl
  have y4 : wy.cell? ⟨g4, 4, none⟩ = some (.pointer (some ⟨w.heap.size, 6, none⟩)) := (blk_cell BF.out 4).trans rfl
  have y5 : wy.cell? ⟨g4, 5, none⟩ = some (.bool false) := (blk_cell BF.out 5).trans rfl
  have z4 : wy.cell? ⟨g6, 4, none⟩ = some (.pointer (some ⟨w.heap.size + 1, 6, none⟩)) := (blk_cell BG.out 4).trans rfl
  have e6 : wy.cell? ⟨w.heap.size, 6, none⟩ = some (.int .i64 x.f6) := (blk_cell BE.out 6).trans rfl
  have o6 : wy.cell? ⟨w.heap.size + 1, 6, none⟩ = some (.int .i64 0) := (blk_cell BO.out 6).trans rfl
  have q6 : wy.frozen? ⟨w.heap.size + 1, 6, none⟩ = false := Lib.frozen_of_heap BO.out 6
  rw [rounds_succ]
  go_wp2_with (fail)
  go_quiet (fail)
  all_goals go_wp2_with (fail)
  all_goals go_ret
  all_goals exact ⟨rfl, pw_below_drewN HZ.out _⟩
set_option maxRecDepth 100000 in
set_option maxHeartbeats 8000000 in
theorem check_c2_yes (k : Nat) (h1 : 1 ≤ k) (h2 : k ≤ 11) (hc : clsK k = 2) (x : S24) (hk : x.f0 = k) (A : Option Addr) (cap : Nat) (w : World) (hr : Kd.C (Kd.int .i64) w A x.f7.length x.f7) (hcap : x.f7.length ≤ cap) (hn : ¬ x.f1 < 0) (hm : ¬ x.f6 < 1) (hw : ¬ ((wsK k).length : Int) ≤ x.f6) (hs : sameP x ⟨x.f0, x.f1, 0, 0, 0, 0, x.f6, []⟩) :
    Calls Tryd.prog 10 #[evV x A cap] w fun e w' => e = .returned (.int .i64 0) ∧ Below w.heap.size w w' := by
  have hu24 := Tryd.underlying24
  have hu48 := Tryd.underlying48
  have hu46 := Tryd.underlying46
  have HR := Aside0.mk hr
  have HCAP := Aside0.mk hcap
  have HCL := Aside0.mk hc
  have HKK := Aside0.mk hk
  have hfo := fo_c2 k hc
  have HFO := Aside0.mk hfo
  have hwl := ws_len2 k
  have T1 := Aside0.mk True.intro
  clear hr hcap hc hk hfo
  have dn : decide (x.f1 < 0) = false := decide_eq_false hn
  have d6 : decide (x.f6 < 1) = false := decide_eq_false hm
  have d7 : decide (((wsK k).length : Int) ≤ x.f6) = false := decide_eq_false hw
  have SM := Aside0.mk hs
  have RI : Aside0 (risesB x.f7 = true) := ⟨by rw [show x.f7 = [] from hs.2.2.2.2.2.2.2]; rfl⟩
  clear hn hm hw hs
  go_enter Tryd.func10, Tryd.ntmps10
  go_upto_region 6 with (first
    | (go_at_call 23; clear T1; refine (form_c2 k h1 h2 HCL.out _ x (.slice A x.f7.length cap) _ HKK.out (hp_lt _ _ _ _ (heap_alloc_new _ _))).mono ?_; rintro e w1 ⟨_, bW, rfl, ⟨AF, rfl, hF⟩, hW, hb⟩; have BE := Aside0.mk (blk_below (hp_lt _ _ _ _ (heap_alloc_new w (.cells (evC x (.slice A x.f7.length cap)) 24))) hb); have BO := Aside0.mk (blk_below (hp_new _ (.cells (evC ⟨x.f0, 0, 0, 0, 0, 0, 0, []⟩ (.slice none 0 0)) 24) (w.heap.size + 1) (by rw [size_alloc])) hb); have BW := Aside0.mk hW; have FF := Aside0.mk hF; have HZ := Aside0.mk ((bel2 w (.cells (evC x (.slice A x.f7.length cap)) 24) (.cells (evC ⟨x.f0, 0, 0, 0, 0, 0, 0, []⟩ (.slice none 0 0)) 24)).trans (hb.mono (by rw [size_alloc, size_alloc]; omega))); clear hW hF hb)
    | (go_at_call 23; refine (form_c2 k h1 h2 HCL.out _ (⟨x.f0, 0, 0, 0, 0, 0, 0, []⟩ : S24) (.slice none 0 0) _ HKK.out (hp_lt _ _ _ _ BO.out)).mono ?_; rintro e w2 ⟨_, bX, rfl, ⟨AG, rfl, hG⟩, hX, hb⟩; have BF := Aside0.mk (blk_below (heap_alloc_new w1 (.cells #[.string (wordB k), .slice AF (foK k).length (foK k).length, .pointer none, .slice (some ⟨bW, 0, none⟩) (wsK k).length (wsK k).length, .pointer (some ⟨w.heap.size, 6, none⟩), .bool false] 48)) hb); have hb1 := (bel1 w1 (.cells #[.string (wordB k), .slice AF (foK k).length (foK k).length, .pointer none, .slice (some ⟨bW, 0, none⟩) (wsK k).length (wsK k).length, .pointer (some ⟨w.heap.size, 6, none⟩), .bool false] 48)).trans (hb.mono (by rw [size_alloc]; omega)); have n1_ := Aside0.mk (blk_below BE.out hb1); have n2_ := Aside0.mk (blk_below BO.out hb1); have n3_ := Aside0.mk (blk_below BW.out hb1); have n4_ := Aside0.mk (fun j o hj => by obtain ⟨ad, e1, e2, e3⟩ := FF.out j o hj; exact ⟨ad, e1, e2, pw_cell_below hb1 e3⟩ : ∀ (j o : Nat), (foK k)[j]? = some o → ∃ ad, AF = some ad ∧ ad.block ≠ w.heap.size ∧ w2.cell? (ad.add j) = some (.pointer (some ⟨w.heap.size, o, none⟩))); have n5_ := Aside0.mk (HZ.out.trans (hb1.mono HZ.out.size)); clear BE BO BW FF HZ hb1; have BE := n1_; have BO := n2_; have BW := n3_; have FF := n4_; have HZ := n5_; have GG := Aside0.mk hG; clear n1_ n2_ n3_ n4_ n5_ hG hX hb))
  have BG := Aside0.mk (heap_alloc_new w2 (.cells #[.string (wordB k), .slice AG (foK k).length (foK k).length, .pointer none, .slice (some ⟨bX, 0, none⟩) (wsK k).length (wsK k).length, .pointer (some ⟨w.heap.size + 1, 6, none⟩), .bool false] 48))
  have hb2 := bel1 w2 (.cells #[.string (wordB k), .slice AG (foK k).length (foK k).length, .pointer none, .slice (some ⟨bX, 0, none⟩) (wsK k).length (wsK k).length, .pointer (some ⟨w.heap.size + 1, 6, none⟩), .bool false] 48)
  have n1_ := Aside0.mk (blk_below BE.out hb2)
  have n2_ := Aside0.mk (blk_below BO.out hb2)
  have n3_ := Aside0.mk (blk_below BW.out hb2)
  have n6_ := Aside0.mk (blk_below BF.out hb2)
  have n5_ := Aside0.mk (HZ.out.trans (hb2.mono HZ.out.size))
  obtain ⟨ad1, hA1, hn1, hc1⟩ := FF.out 0 1 (by rw [HFO.out]; rfl)
  obtain ⟨ad2, hA2, hn2, hc2⟩ := GG.out 0 1 (by rw [HFO.out]; rfl)
  have x1 := Aside0.mk (pw_cell_below hb2 hc1)
  have x2 := Aside0.mk (pw_cell_below hb2 hc2)
  have N1 := Aside0.mk hn1
  have N2 := Aside0.mk hn2
  clear hb2 hc1 hc2 hn1 hn2 FF GG BE BO BW BF HZ
  generalize w1.heap.size = g4 at n6_ ⊢
  generalize w2.heap.size = g6 at BG ⊢
  generalize w2.alloc (.cells #[.string (wordB k), .slice AG (foK k).length (foK k).length, .pointer none, .slice (some ⟨bX, 0, none⟩) (wsK k).length (wsK k).length, .pointer (some ⟨w.heap.size + 1, 6, none⟩), .bool false] 48) = wz at *
  have BE := n1_
  have BO := n2_
  have BW := n3_
  have BF := n6_
  have HZ := n5_
  clear n1_ n2_ n3_ n5_ n6_
  subst hA1 hA2
  have y1 : wz.cell? ⟨g4, 1, none⟩ = some (.slice (some ad1) (foK k).length (foK k).length) := (blk_cell BF.out 1).trans rfl
  have y2 : wz.cell? ⟨g4, 2, none⟩ = some (.pointer none) := (blk_cell BF.out 2).trans rfl
  have y3 : wz.cell? ⟨g4, 3, none⟩ = some (.slice (some ⟨bW, 0, none⟩) (wsK k).length (wsK k).length) := (blk_cell BF.out 3).trans rfl
  have y4 : wz.cell? ⟨g4, 4, none⟩ = some (.pointer (some ⟨w.heap.size, 6, none⟩)) := (blk_cell BF.out 4).trans rfl
  have y5 : wz.cell? ⟨g4, 5, none⟩ = some (.bool false) := (blk_cell BF.out 5).trans rfl
  have z1 : wz.cell? ⟨g6, 1, none⟩ = some (.slice (some ad2) (foK k).length (foK k).length) := (blk_cell BG.out 1).trans rfl
  have z4 : wz.cell? ⟨g6, 4, none⟩ = some (.pointer (some ⟨w.heap.size + 1, 6, none⟩)) := (blk_cell BG.out 4).trans rfl
  rw [HFO.out] at y1 z1 ⊢
  have p1 : wz.cell? ad1 = some (.pointer (some ⟨w.heap.size, 1, none⟩)) := x1.out
  have p2 : wz.cell? ad2 = some (.pointer (some ⟨w.heap.size + 1, 1, none⟩)) := x2.out
  have e1 : wz.cell? ⟨w.heap.size, 1, none⟩ = some (.int .i64 x.f1) := (blk_cell BE.out 1).trans rfl
  have e6 : wz.cell? ⟨w.heap.size, 6, none⟩ = some (.int .i64 x.f6) := (blk_cell BE.out 6).trans rfl
  have o1 : wz.cell? ⟨w.heap.size + 1, 1, none⟩ = some (.int .i64 0) := (blk_cell BO.out 1).trans rfl
  have q1 : wz.frozen? ⟨w.heap.size + 1, 1, none⟩ = false := Lib.frozen_of_heap BO.out 1
  go_wp2_with (fail)
  refine wp_loop_rounds 2 ?_
  rw [rounds_succ]
  go_wp2_with (fail)
  go_region
  have NE4 := Aside0.mk (show g4 ≠ w.heap.size + 1 by rintro rfl; have h1 := BF.out.symm.trans BO.out; injection h1 with h1; injection h1 with _ h2 _; cases h2)
  have NE6 := Aside0.mk (show g6 ≠ w.heap.size + 1 by rintro rfl; have h1 := BG.out.symm.trans BO.out; injection h1 with h1; injection h1 with _ h2 _; cases h2)
  go_wp2_with (fail)
  clear y1 y2 y3 y4 y5 z1 z4 p1 p2 e1 e6 o1 q1
  have n1_ : Aside0 (((wz.setCell ⟨w.heap.size + 1, 1, none⟩ (.int .i64 x.f1)).drew).heap[w.heap.size]? = some (.cells (evC x (.slice A x.f7.length cap)) 24 (0, 0))) := ⟨hp_setne wz _ _ _ 1 _ (by omega) BE.out⟩
  have n2_ : Aside0 (((wz.setCell ⟨w.heap.size + 1, 1, none⟩ (.int .i64 x.f1)).drew).heap[w.heap.size + 1]? = some (.cells (evC ⟨x.f0, x.f1, 0, 0, 0, 0, 0, []⟩ (.slice none 0 0)) 24 (0, 0))) := ⟨blk_put (w := wz) BO.out 1 _ rfl⟩
  have n3_ : Aside0 (((wz.setCell ⟨w.heap.size + 1, 1, none⟩ (.int .i64 x.f1)).drew).heap[g4]? = some (.cells #[.string (wordB k), .slice (some ad1) (foK k).length (foK k).length, .pointer none, .slice (some ⟨bW, 0, none⟩) (wsK k).length (wsK k).length, .pointer (some ⟨w.heap.size, 6, none⟩), .bool false] 48 (0, 0))) := ⟨hp_setne wz _ _ _ 1 _ NE4.out BF.out⟩
  have n4_ : Aside0 (((wz.setCell ⟨w.heap.size + 1, 1, none⟩ (.int .i64 x.f1)).drew).heap[g6]? = some (.cells #[.string (wordB k), .slice (some ad2) (foK k).length (foK k).length, .pointer none, .slice (some ⟨bX, 0, none⟩) (wsK k).length (wsK k).length, .pointer (some ⟨w.heap.size + 1, 6, none⟩), .bool false] 48 (0, 0))) := ⟨hp_setne wz _ _ _ 1 _ NE6.out BG.out⟩
  have n5_ : Aside0 (Below w.heap.size w ((wz.setCell ⟨w.heap.size + 1, 1, none⟩ (.int .i64 x.f1)).drew)) := ⟨below_drew (Below.setCell HZ.out (p := ⟨w.heap.size + 1, 1, none⟩) (Nat.le_succ _) _)⟩
  clear BE BO BF BG HZ
  generalize (wz.setCell ⟨w.heap.size + 1, 1, none⟩ (.int .i64 x.f1)).drew = wy at n1_ n2_ n3_ n4_ n5_ ⊢
  have BE := n1_
  have BO := n2_
  have BF := n3_
  have BG := n4_
  have HZ := n5_
  clear n1_ n2_ n3_ n4_ n5_
  have y2 : wy.cell? ⟨g4, 2, none⟩ = some (.pointer none) := (blk_cell BF.out 2).trans rfl
  have y3 : wy.cell? ⟨g4, 3, none⟩ = some (.slice (some ⟨bW, 0, none⟩) (wsK k).length (wsK k).length) := (blk_cell BF.out 3).trans rfl
  have y4 : wy.cell? ⟨g4, 4, none⟩ = some (.pointer (some ⟨w.heap.size, 6, none⟩)) := (blk_cell BF.out 4).trans rfl
  have y5 : wy.cell? ⟨g4, 5, none⟩ = some (.bool false) := (blk_cell BF.out 5).trans rfl
  have z4 : wy.cell? ⟨g6, 4, none⟩ = some (.pointer (some ⟨w.heap.size + 1, 6, none⟩)) := (blk_cell BG.out 4).trans rfl
  have e6 : wy.cell? ⟨w.heap.size, 6, none⟩ = some (.int .i64 x.f6) := (blk_cell BE.out 6).trans rfl
  have o6 : wy.cell? ⟨w.heap.size + 1, 6, none⟩ = some (.int .i64 0) := (blk_cell BO.out 6).trans rfl
  have q6 : wy.frozen? ⟨w.heap.size + 1, 6, none⟩ = false := Lib.frozen_of_heap BO.out 6
  rw [rounds_succ]
  go_wp2_with (fail)
  go_quiet (fail)
  go_wp2_with (fail)
  have n1_ : Aside0 ((wy.drewN nq).heap[w.heap.size]? = some (.cells (evC x (.slice A x.f7.length cap)) 24 (0, 0))) := ⟨BE.out⟩
  have n2_ : Aside0 ((wy.drewN nq).heap[w.heap.size + 1]? = some (.cells (evC ⟨x.f0, x.f1, 0, 0, 0, 0, 0, []⟩ (.slice none 0 0)) 24 (0, 0))) := ⟨BO.out⟩
  have n3_ : Aside0 ((wy.drewN nq).heap[g4]? = some (.cells #[.string (wordB k), .slice (some ad1) (foK k).length (foK k).length, .pointer none, .slice (some ⟨bW, 0, none⟩) (wsK k).length (wsK k).length, .pointer (some ⟨w.heap.size, 6, none⟩), .bool false] 48 (0, 0))) := ⟨BF.out⟩
  have n4_ : Aside0 ((wy.drewN nq).heap[g6]? = some (.cells #[.string (wordB k), .slice (some ad2) (foK k).length (foK k).length, .pointer none, .slice (some ⟨bX, 0, none⟩) (wsK k).length (wsK k).length, .pointer (some ⟨w.heap.size + 1, 6, none⟩), .bool false] 48 (0, 0))) := ⟨BG.out⟩
  have n5_ : Aside0 (Below w.heap.size w (wy.drewN nq)) := ⟨pw_below_drewN HZ.out _⟩
  clear BE BO BF BG HZ
  generalize wy.drewN nq = wx at n1_ n2_ n3_ n4_ n5_ ⊢
  have BE := n1_
  have BO := n2_
  have BF := n3_
  have BG := n4_
  have HZ := n5_
  clear n1_ n2_ n3_ n4_ n5_
  clear y2 y3 y4 y5 z4 e6 o6 q6
  have y2 : wx.cell? ⟨g4, 2, none⟩ = some (.pointer none) := (blk_cell BF.out 2).trans rfl
  have y3 : wx.cell? ⟨g4, 3, none⟩ = some (.slice (some ⟨bW, 0, none⟩) (wsK k).length (wsK k).length) := (blk_cell BF.out 3).trans rfl
  have y4 : wx.cell? ⟨g4, 4, none⟩ = some (.pointer (some ⟨w.heap.size, 6, none⟩)) := (blk_cell BF.out 4).trans rfl
  have y5 : wx.cell? ⟨g4, 5, none⟩ = some (.bool false) := (blk_cell BF.out 5).trans rfl
  have z4 : wx.cell? ⟨g6, 4, none⟩ = some (.pointer (some ⟨w.heap.size + 1, 6, none⟩)) := (blk_cell BG.out 4).trans rfl
  have e6 : wx.cell? ⟨w.heap.size, 6, none⟩ = some (.int .i64 x.f6) := (blk_cell BE.out 6).trans rfl
  have o6 : wx.cell? ⟨w.heap.size + 1, 6, none⟩ = some (.int .i64 0) := (blk_cell BO.out 6).trans rfl
  have q6 : wx.frozen? ⟨w.heap.size + 1, 6, none⟩ = false := Lib.frozen_of_heap BO.out 6
  go_region
  clear y2 y3 y4 y5 z4 e6 o6 q6
  have n1_ : Aside0 (((wx.setCell ⟨w.heap.size + 1, 6, none⟩ (.int .i64 x.f6)).drew).heap[w.heap.size]? = some (.cells (evC x (.slice A x.f7.length cap)) 24 (0, 0))) := ⟨hp_setne wx _ _ _ 6 _ (by omega) BE.out⟩
  have n2_ : Aside0 (((wx.setCell ⟨w.heap.size + 1, 6, none⟩ (.int .i64 x.f6)).drew).heap[w.heap.size + 1]? = some (.cells (evC ⟨x.f0, x.f1, 0, 0, 0, 0, x.f6, []⟩ (.slice none 0 0)) 24 (0, 0))) := ⟨blk_put (w := wx) BO.out 6 _ rfl⟩
  have n3_ : Aside0 (((wx.setCell ⟨w.heap.size + 1, 6, none⟩ (.int .i64 x.f6)).drew).heap[g4]? = some (.cells #[.string (wordB k), .slice (some ad1) (foK k).length (foK k).length, .pointer none, .slice (some ⟨bW, 0, none⟩) (wsK k).length (wsK k).length, .pointer (some ⟨w.heap.size, 6, none⟩), .bool false] 48 (0, 0))) := ⟨hp_setne wx _ _ _ 6 _ NE4.out BF.out⟩
  have n4_ : Aside0 (((wx.setCell ⟨w.heap.size + 1, 6, none⟩ (.int .i64 x.f6)).drew).heap[g6]? = some (.cells #[.string (wordB k), .slice (some ad2) (foK k).length (foK k).length, .pointer none, .slice (some ⟨bX, 0, none⟩) (wsK k).length (wsK k).length, .pointer (some ⟨w.heap.size + 1, 6, none⟩), .bool false] 48 (0, 0))) := ⟨hp_setne wx _ _ _ 6 _ NE6.out BG.out⟩
  have n5_ : Aside0 (Below w.heap.size w ((wx.setCell ⟨w.heap.size + 1, 6, none⟩ (.int .i64 x.f6)).drew)) := ⟨below_drew (Below.setCell HZ.out (p := ⟨w.heap.size + 1, 6, none⟩) (Nat.le_succ _) _)⟩
  clear BE BO BF BG HZ
  generalize (wx.setCell ⟨w.heap.size + 1, 6, none⟩ (.int .i64 x.f6)).drew = wv at n1_ n2_ n3_ n4_ n5_ ⊢
  have BE := n1_
  have BO := n2_
  have BF := n3_
  have BG := n4_
  have HZ := n5_
  clear n1_ n2_ n3_ n4_ n5_
  have y5 : wv.cell? ⟨g4, 5, none⟩ = some (.bool false) := (blk_cell BF.out 5).trans rfl
  go_wp2_with (first
    | (refine wpList_load_row rfl 24 (.tmp 1) rfl w.heap.size rfl 24 (evC x (.slice A x.f7.length cap)) (0, 0) _ BE.out Tryd.underlying24 rfl (by kernel_rfl) ?_)
    | (refine wpList_load_row rfl 24 (.tmp 3) rfl (w.heap.size + 1) rfl 24 (evC ⟨x.f0, x.f1, 0, 0, 0, 0, x.f6, []⟩ (.slice none 0 0)) (0, 0) _ BO.out Tryd.underlying24 rfl (by kernel_rfl) ?_)
    | (go_at_call 24; refine (same_yes x (⟨x.f0, x.f1, 0, 0, 0, 0, x.f6, []⟩ : S24) A none cap 0 _ (Kd.C_below HR.out HZ.out) HCAP.out (Kd.C_nil _ _) (Nat.le_refl _) SM.out).mono ?_; rintro e wq ⟨rfl, hb⟩; have x7 : wq.cell? ⟨w.heap.size, 7, none⟩ = some (.slice A x.f7.length cap) := cell_keep BE.out hb rfl; have HB2 := Aside0.mk (below_then HZ.out HZ.out.size hb); clear HZ hb; have HZ := HB2; clear HB2)
    | (go_at_call 25; refine (rises_any x.f7 A cap _ (Kd.C_below HR.out HZ.out) HCAP.out _ RI.out).mono ?_; rintro e wr ⟨rfl, hd⟩; have HB2 := Aside0.mk (below_then HZ.out HZ.out.size hd.below); clear HZ hd; have HZ := HB2; clear HB2))
  go_ret
  exact ⟨rfl, HZ.out⟩
set_option maxRecDepth 100000 in
set_option maxHeartbeats 8000000 in
theorem check_c2_no (k : Nat) (h1 : 1 ≤ k) (h2 : k ≤ 11) (hc : clsK k = 2) (x : S24) (hk : x.f0 = k) (A : Option Addr) (cap : Nat) (w : World) (hr : Kd.C (Kd.int .i64) w A x.f7.length x.f7) (hcap : x.f7.length ≤ cap) (hn : ¬ x.f1 < 0) (hm : ¬ x.f6 < 1) (hw : ¬ ((wsK k).length : Int) ≤ x.f6) (hs : ¬ sameP x ⟨x.f0, x.f1, 0, 0, 0, 0, x.f6, []⟩) :
    Calls Tryd.prog 10 #[evV x A cap] w fun e w' => e = .returned (.int .i64 180) ∧ Below w.heap.size w w' := by
  have hu24 := Tryd.underlying24
  have hu48 := Tryd.underlying48
  have hu46 := Tryd.underlying46
  have HR := Aside0.mk hr
  have HCAP := Aside0.mk hcap
  have HCL := Aside0.mk hc
  have HKK := Aside0.mk hk
  have hfo := fo_c2 k hc
  have HFO := Aside0.mk hfo
  have hwl := ws_len2 k
  have T1 := Aside0.mk True.intro
  clear hr hcap hc hk hfo
  have dn : decide (x.f1 < 0) = false := decide_eq_false hn
  have d6 : decide (x.f6 < 1) = false := decide_eq_false hm
  have d7 : decide (((wsK k).length : Int) ≤ x.f6) = false := decide_eq_false hw
  have SM := Aside0.mk hs
  clear hn hm hw hs
  go_enter Tryd.func10, Tryd.ntmps10
  go_upto_region 6 with (first
    | (go_at_call 23; clear T1; refine (form_c2 k h1 h2 HCL.out _ x (.slice A x.f7.length cap) _ HKK.out (hp_lt _ _ _ _ (heap_alloc_new _ _))).mono ?_; rintro e w1 ⟨_, bW, rfl, ⟨AF, rfl, hF⟩, hW, hb⟩; have BE := Aside0.mk (blk_below (hp_lt _ _ _ _ (heap_alloc_new w (.cells (evC x (.slice A x.f7.length cap)) 24))) hb); have BO := Aside0.mk (blk_below (hp_new _ (.cells (evC ⟨x.f0, 0, 0, 0, 0, 0, 0, []⟩ (.slice none 0 0)) 24) (w.heap.size + 1) (by rw [size_alloc])) hb); have BW := Aside0.mk hW; have FF := Aside0.mk hF; have HZ := Aside0.mk ((bel2 w (.cells (evC x (.slice A x.f7.length cap)) 24) (.cells (evC ⟨x.f0, 0, 0, 0, 0, 0, 0, []⟩ (.slice none 0 0)) 24)).trans (hb.mono (by rw [size_alloc, size_alloc]; omega))); clear hW hF hb)
    | (go_at_call 23; refine (form_c2 k h1 h2 HCL.out _ (⟨x.f0, 0, 0, 0, 0, 0, 0, []⟩ : S24) (.slice none 0 0) _ HKK.out (hp_lt _ _ _ _ BO.out)).mono ?_; rintro e w2 ⟨_, bX, rfl, ⟨AG, rfl, hG⟩, hX, hb⟩; have BF := Aside0.mk (blk_below (heap_alloc_new w1 (.cells #[.string (wordB k), .slice AF (foK k).length (foK k).length, .pointer none, .slice (some ⟨bW, 0, none⟩) (wsK k).length (wsK k).length, .pointer (some ⟨w.heap.size, 6, none⟩), .bool false] 48)) hb); have hb1 := (bel1 w1 (.cells #[.string (wordB k), .slice AF (foK k).length (foK k).length, .pointer none, .slice (some ⟨bW, 0, none⟩) (wsK k).length (wsK k).length, .pointer (some ⟨w.heap.size, 6, none⟩), .bool false] 48)).trans (hb.mono (by rw [size_alloc]; omega)); have n1_ := Aside0.mk (blk_below BE.out hb1); have n2_ := Aside0.mk (blk_below BO.out hb1); have n3_ := Aside0.mk (blk_below BW.out hb1); have n4_ := Aside0.mk (fun j o hj => by obtain ⟨ad, e1, e2, e3⟩ := FF.out j o hj; exact ⟨ad, e1, e2, pw_cell_below hb1 e3⟩ : ∀ (j o : Nat), (foK k)[j]? = some o → ∃ ad, AF = some ad ∧ ad.block ≠ w.heap.size ∧ w2.cell? (ad.add j) = some (.pointer (some ⟨w.heap.size, o, none⟩))); have n5_ := Aside0.mk (HZ.out.trans (hb1.mono HZ.out.size)); clear BE BO BW FF HZ hb1; have BE := n1_; have BO := n2_; have BW := n3_; have FF := n4_; have HZ := n5_; have GG := Aside0.mk hG; clear n1_ n2_ n3_ n4_ n5_ hG hX hb))
  have BG := Aside0.mk (heap_alloc_new w2 (.cells #[.string (wordB k), .slice AG (foK k).length (foK k).length, .pointer none, .slice (some ⟨bX, 0, none⟩) (wsK k).length (wsK k).length, .pointer (some ⟨w.heap.size + 1, 6, none⟩), .bool false] 48))
  have hb2 := bel1 w2 (.cells #[.string (wordB k), .slice AG (foK k).length (foK k).length, .pointer none, .slice (some ⟨bX, 0, none⟩) (wsK k).length (wsK k).length, .pointer (some ⟨w.heap.size + 1, 6, none⟩), .bool false] 48)
  have n1_ := Aside0.mk (blk_below BE.out hb2)
  have n2_ := Aside0.mk (blk_below BO.out hb2)
  have n3_ := Aside0.mk (blk_below BW.out hb2)
  have n6_ := Aside0.mk (blk_below BF.out hb2)
  have n5_ := Aside0.mk (HZ.out.trans (hb2.mono HZ.out.size))
  obtain ⟨ad1, hA1, hn1, hc1⟩ := FF.out 0 1 (by rw [HFO.out]; rfl)
  obtain ⟨ad2, hA2, hn2, hc2⟩ := GG.out 0 1 (by rw [HFO.out]; rfl)
  have x1 := Aside0.mk (pw_cell_below hb2 hc1)
  have x2 := Aside0.mk (pw_cell_below hb2 hc2)
  have N1 := Aside0.mk hn1
  have N2 := Aside0.mk hn2
  clear hb2 hc1 hc2 hn1 hn2 FF GG BE BO BW BF HZ
  generalize w1.heap.size = g4 at n6_ ⊢
  generalize w2.heap.size = g6 at BG ⊢
  generalize w2.alloc (.cells #[.string (wordB k), .slice AG (foK k).length (foK k).length, .pointer none, .slice (some ⟨bX, 0, none⟩) (wsK k).length (wsK k).length, .pointer (some ⟨w.heap.size + 1, 6, none⟩), .bool false] 48) = wz at *
  have BE := n1_
  have BO := n2_
  have BW := n3_
  have BF := n6_
  have HZ := n5_
  clear n1_ n2_ n3_ n5_ n6_
  subst hA1 hA2
  have y1 : wz.cell? ⟨g4, 1, none⟩ = some (.slice (some ad1) (foK k).length (foK k).length) := (blk_cell BF.out 1).trans rfl
  have y2 : wz.cell? ⟨g4, 2, none⟩ = some (.pointer none) := (blk_cell BF.out 2).trans rfl
  have y3 : wz.cell? ⟨g4, 3, none⟩ = some (.slice (some ⟨bW, 0, none⟩) (wsK k).length (wsK k).length) := (blk_cell BF.out 3).trans rfl
  have y4 : wz.cell? ⟨g4, 4, none⟩ = some (.pointer (some ⟨w.heap.size, 6, none⟩)) := (blk_cell BF.out 4).trans rfl
  have y5 : wz.cell? ⟨g4, 5, none⟩ = some (.bool false) := (blk_cell BF.out 5).trans rfl
  have z1 : wz.cell? ⟨g6, 1, none⟩ = some (.slice (some ad2) (foK k).length (foK k).length) := (blk_cell BG.out 1).trans rfl
  have z4 : wz.cell? ⟨g6, 4, none⟩ = some (.pointer (some ⟨w.heap.size + 1, 6, none⟩)) := (blk_cell BG.out 4).trans rfl
  rw [HFO.out] at y1 z1 ⊢
  have p1 : wz.cell? ad1 = some (.pointer (some ⟨w.heap.size, 1, none⟩)) := x1.out
  have p2 : wz.cell? ad2 = some (.pointer (some ⟨w.heap.size + 1, 1, none⟩)) := x2.out
  have e1 : wz.cell? ⟨w.heap.size, 1, none⟩ = some (.int .i64 x.f1) := (blk_cell BE.out 1).trans rfl
  have e6 : wz.cell? ⟨w.heap.size, 6, none⟩ = some (.int .i64 x.f6) := (blk_cell BE.out 6).trans rfl
  have o1 : wz.cell? ⟨w.heap.size + 1, 1, none⟩ = some (.int .i64 0) := (blk_cell BO.out 1).trans rfl
  have q1 : wz.frozen? ⟨w.heap.size + 1, 1, none⟩ = false := Lib.frozen_of_heap BO.out 1
  go_wp2_with (fail)
  refine wp_loop_rounds 2 ?_
  rw [rounds_succ]
  go_wp2_with (fail)
  go_region
  have NE4 := Aside0.mk (show g4 ≠ w.heap.size + 1 by rintro rfl; have h1 := BF.out.symm.trans BO.out; injection h1 with h1; injection h1 with _ h2 _; cases h2)
  have NE6 := Aside0.mk (show g6 ≠ w.heap.size + 1 by rintro rfl; have h1 := BG.out.symm.trans BO.out; injection h1 with h1; injection h1 with _ h2 _; cases h2)
  go_wp2_with (fail)
  clear y1 y2 y3 y4 y5 z1 z4 p1 p2 e1 e6 o1 q1
  have n1_ : Aside0 (((wz.setCell ⟨w.heap.size + 1, 1, none⟩ (.int .i64 x.f1)).drew).heap[w.heap.size]? = some (.cells (evC x (.slice A x.f7.length cap)) 24 (0, 0))) := ⟨hp_setne wz _ _ _ 1 _ (by omega) BE.out⟩
  have n2_ : Aside0 (((wz.setCell ⟨w.heap.size + 1, 1, none⟩ (.int .i64 x.f1)).drew).heap[w.heap.size + 1]? = some (.cells (evC ⟨x.f0, x.f1, 0, 0, 0, 0, 0, []⟩ (.slice none 0 0)) 24 (0, 0))) := ⟨blk_put (w := wz) BO.out 1 _ rfl⟩
  have n3_ : Aside0 (((wz.setCell ⟨w.heap.size + 1, 1, none⟩ (.int .i64 x.f1)).drew).heap[g4]? = some (.cells #[.string (wordB k), .slice (some ad1) (foK k).length (foK k).length, .pointer none, .slice (some ⟨bW, 0, none⟩) (wsK k).length (wsK k).length, .pointer (some ⟨w.heap.size, 6, none⟩), .bool false] 48 (0, 0))) := ⟨hp_setne wz _ _ _ 1 _ NE4.out BF.out⟩
  have n4_ : Aside0 (((wz.setCell ⟨w.heap.size + 1, 1, none⟩ (.int .i64 x.f1)).drew).heap[g6]? = some (.cells #[.string (wordB k), .slice (some ad2) (foK k).length (foK k).length, .pointer none, .slice (some ⟨bX, 0, none⟩) (wsK k).length (wsK k).length, .pointer (some ⟨w.heap.size + 1, 6, none⟩), .bool false] 48 (0, 0))) := ⟨hp_setne wz _ _ _ 1 _ NE6.out BG.out⟩
  have n5_ : Aside0 (Below w.heap.size w ((wz.setCell ⟨w.heap.size + 1, 1, none⟩ (.int .i64 x.f1)).drew)) := ⟨below_drew (Below.setCell HZ.out (p := ⟨w.heap.size + 1, 1, none⟩) (Nat.le_succ _) _)⟩
  clear BE BO BF BG HZ
  generalize (wz.setCell ⟨w.heap.size + 1, 1, none⟩ (.int .i64 x.f1)).drew = wy at n1_ n2_ n3_ n4_ n5_ ⊢
  have BE := n1_
  have BO := n2_
  have BF := n3_
  have BG := n4_
  have HZ := n5_
  clear n1_ n2_ n3_ n4_ n5_
  have y2 : wy.cell? ⟨g4, 2, none⟩ = some (.pointer none) := (blk_cell BF.out 2).trans rfl
  have y3 : wy.cell? ⟨g4, 3, none⟩ = some (.slice (some ⟨bW, 0, none⟩) (wsK k).length (wsK k).length) := (blk_cell BF.out 3).trans rfl
  have y4 : wy.cell? ⟨g4, 4, none⟩ = some (.pointer (some ⟨w.heap.size, 6, none⟩)) := (blk_cell BF.out 4).trans rfl
  have y5 : wy.cell? ⟨g4, 5, none⟩ = some (.bool false) := (blk_cell BF.out 5).trans rfl
  have z4 : wy.cell? ⟨g6, 4, none⟩ = some (.pointer (some ⟨w.heap.size + 1, 6, none⟩)) := (blk_cell BG.out 4).trans rfl
  have e6 : wy.cell? ⟨w.heap.size, 6, none⟩ = some (.int .i64 x.f6) := (blk_cell BE.out 6).trans rfl
  have o6 : wy.cell? ⟨w.heap.size + 1, 6, none⟩ = some (.int .i64 0) := (blk_cell BO.out 6).trans rfl
  have q6 : wy.frozen? ⟨w.heap.size + 1, 6, none⟩ = false := Lib.frozen_of_heap BO.out 6
  rw [rounds_succ]
  go_wp2_with (fail)
  go_quiet (fail)
  go_wp2_with (fail)
  have n1_ : Aside0 ((wy.drewN nq).heap[w.heap.size]? = some (.cells (evC x (.slice A x.f7.length cap)) 24 (0, 0))) := ⟨BE.out⟩
  have n2_ : Aside0 ((wy.drewN nq).heap[w.heap.size + 1]? = some (.cells (evC ⟨x.f0, x.f1, 0, 0, 0, 0, 0, []⟩ (.slice none 0 0)) 24 (0, 0))) := ⟨BO.out⟩
  have n3_ : Aside0 ((wy.drewN nq).heap[g4]? = some (.cells #[.string (wordB k), .slice (some ad1) (foK k).length (foK k).length, .pointer none, .slice (some ⟨bW, 0, none⟩) (wsK k).length (wsK k).length, .pointer (some ⟨w.heap.size, 6, none⟩), .bool false] 48 (0, 0))) := ⟨BF.out⟩
  have n4_ : Aside0 ((wy.drewN nq).heap[g6]? = some (.cells #[.string (wordB k), .slice (some ad2) (foK k).length (foK k).length, .pointer none, .slice (some ⟨bX, 0, none⟩) (wsK k).length (wsK k).length, .pointer (some ⟨w.heap.size + 1, 6, none⟩), .bool false] 48 (0, 0))) := ⟨BG.out⟩
  have n5_ : Aside0 (Below w.heap.size w (wy.drewN nq)) := ⟨pw_below_drewN HZ.out _⟩
  clear BE BO BF BG HZ
  generalize wy.drewN nq = wx at n1_ n2_ n3_ n4_ n5_ ⊢
  have BE := n1_
  have BO := n2_
  have BF := n3_
  have BG := n4_
  have HZ := n5_
  clear n1_ n2_ n3_ n4_ n5_
  clear y2 y3 y4 y5 z4 e6 o6 q6
  have y2 : wx.cell? ⟨g4, 2, none⟩ = some (.pointer none) := (blk_cell BF.out 2).trans rfl
  have y3 : wx.cell? ⟨g4, 3, none⟩ = some (.slice (some ⟨bW, 0, none⟩) (wsK k).length (wsK k).length) := (blk_cell BF.out 3).trans rfl
  have y4 : wx.cell? ⟨g4, 4, none⟩ = some (.pointer (some ⟨w.heap.size, 6, none⟩)) := (blk_cell BF.out 4).trans rfl
  have y5 : wx.cell? ⟨g4, 5, none⟩ = some (.bool false) := (blk_cell BF.out 5).trans rfl
  have z4 : wx.cell? ⟨g6, 4, none⟩ = some (.pointer (some ⟨w.heap.size + 1, 6, none⟩)) := (blk_cell BG.out 4).trans rfl
  have e6 : wx.cell? ⟨w.heap.size, 6, none⟩ = some (.int .i64 x.f6) := (blk_cell BE.out 6).trans rfl
  have o6 : wx.cell? ⟨w.heap.size + 1, 6, none⟩ = some (.int .i64 0) := (blk_cell BO.out 6).trans rfl
  have q6 : wx.frozen? ⟨w.heap.size + 1, 6, none⟩ = false := Lib.frozen_of_heap BO.out 6
  go_region
  clear y2 y3 y4 y5 z4 e6 o6 q6
  have n1_ : Aside0 (((wx.setCell ⟨w.heap.size + 1, 6, none⟩ (.int .i64 x.f6)).drew).heap[w.heap.size]? = some (.cells (evC x (.slice A x.f7.length cap)) 24 (0, 0))) := ⟨hp_setne wx _ _ _ 6 _ (by omega) BE.out⟩
  have n2_ : Aside0 (((wx.setCell ⟨w.heap.size + 1, 6, none⟩ (.int .i64 x.f6)).drew).heap[w.heap.size + 1]? = some (.cells (evC ⟨x.f0, x.f1, 0, 0, 0, 0, x.f6, []⟩ (.slice none 0 0)) 24 (0, 0))) := ⟨blk_put (w := wx) BO.out 6 _ rfl⟩
  have n3_ : Aside0 (((wx.setCell ⟨w.heap.size + 1, 6, none⟩ (.int .i64 x.f6)).drew).heap[g4]? = some (.cells #[.string (wordB k), .slice (some ad1) (foK k).length (foK k).length, .pointer none, .slice (some ⟨bW, 0, none⟩) (wsK k).length (wsK k).length, .pointer (some ⟨w.heap.size, 6, none⟩), .bool false] 48 (0, 0))) := ⟨hp_setne wx _ _ _ 6 _ NE4.out BF.out⟩
  have n4_ : Aside0 (((wx.setCell ⟨w.heap.size + 1, 6, none⟩ (.int .i64 x.f6)).drew).heap[g6]? = some (.cells #[.string (wordB k), .slice (some ad2) (foK k).length (foK k).length, .pointer none, .slice (some ⟨bX, 0, none⟩) (wsK k).length (wsK k).length, .pointer (some ⟨w.heap.size + 1, 6, none⟩), .bool false] 48 (0, 0))) := ⟨hp_setne wx _ _ _ 6 _ NE6.out BG.out⟩
  have n5_ : Aside0 (Below w.heap.size w ((wx.setCell ⟨w.heap.size + 1, 6, none⟩ (.int .i64 x.f6)).drew)) := ⟨below_drew (Below.setCell HZ.out (p := ⟨w.heap.size + 1, 6, none⟩) (Nat.le_succ _) _)⟩
  clear BE BO BF BG HZ
  generalize (wx.setCell ⟨w.heap.size + 1, 6, none⟩ (.int .i64 x.f6)).drew = wv at n1_ n2_ n3_ n4_ n5_ ⊢
  have BE := n1_
  have BO := n2_
  have BF := n3_
  have BG := n4_
  have HZ := n5_
  clear n1_ n2_ n3_ n4_ n5_
  have y5 : wv.cell? ⟨g4, 5, none⟩ = some (.bool false) := (blk_cell BF.out 5).trans rfl
  go_wp2_with (first
    | (refine wpList_load_row rfl 24 (.tmp 1) rfl w.heap.size rfl 24 (evC x (.slice A x.f7.length cap)) (0, 0) _ BE.out Tryd.underlying24 rfl (by kernel_rfl) ?_)
    | (refine wpList_load_row rfl 24 (.tmp 3) rfl (w.heap.size + 1) rfl 24 (evC ⟨x.f0, x.f1, 0, 0, 0, 0, x.f6, []⟩ (.slice none 0 0)) (0, 0) _ BO.out Tryd.underlying24 rfl (by kernel_rfl) ?_)
    | (go_at_call 24; refine (same_no x (⟨x.f0, x.f1, 0, 0, 0, 0, x.f6, []⟩ : S24) A none cap 0 _ (Kd.C_below HR.out HZ.out) HCAP.out (Kd.C_nil _ _) (Nat.le_refl _) SM.out).mono ?_; rintro e wq ⟨rfl, hb⟩; have x7 : wq.cell? ⟨w.heap.size, 7, none⟩ = some (.slice A x.f7.length cap) := cell_keep BE.out hb rfl; have HB2 := Aside0.mk (below_then HZ.out HZ.out.size hb); clear HZ hb; have HZ := HB2; clear HB2)
    | (go_at_call 25; refine (rises_any x.f7 A cap _ (Kd.C_below HR.out HZ.out) HCAP.out _ RI.out).mono ?_; rintro e wr ⟨rfl, hd⟩; have HB2 := Aside0.mk (below_then HZ.out HZ.out.size hd.below); clear HZ hd; have HZ := HB2; clear HB2))
  go_ret
  exact ⟨rfl, HZ.out⟩
end Go.Proofs.YtiapfhlipoomaaaDoor.Given
