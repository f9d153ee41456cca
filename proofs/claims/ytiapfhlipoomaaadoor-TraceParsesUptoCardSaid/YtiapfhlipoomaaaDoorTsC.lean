/- Lemmas for the claim (what no proof of it names is left out). -/
import Derived.Test.YtiapfhlipoomaaaDoorTsB
import Derived.Lib.Join
import Derived.Deep.RegionHeld3
import Derived.Test.YtiapfhlipoomaaaDoorTsA
section
namespace Go.Proofs.YtiapfhlipoomaaaDoor.Given
open Go.RowKit Go.Proofs.YtiapfhlipoomaaaDoorW.PrintWords Go.Proofs.YtiapfhlipoomaaaDoorW.PrintLast Go.Proofs.YtiapfhlipoomaaaDoorW.PrintMore Go.Proofs.YtiapfhlipoomaaaDoor.Print
set_option linter.unusedVariables false
set_option linter.unusedSimpArgs false
theorem fo_c2 (k : Nat) (h : clsK k = 2) : foK k = [1] := by
  unfold clsK at h
  split at h <;> first | rfl | cases h
theorem ok_c2 (k : Nat) (h : clsK k = 2) (x : S24) : okK k x = decide (0 ≤ x.f1 ∧ 1 ≤ x.f6 ∧ x.f6 < ((wsK k).length : Int) ∧ x.f2 = 0 ∧ x.f3 = 0 ∧ x.f4 = 0 ∧ x.f5 = 0 ∧ x.f7 = []) := by
  unfold clsK at h
  split at h <;> first | rfl | cases h
set_option maxRecDepth 100000 in
set_option maxHeartbeats 8000000 in
theorem check_c2_neg (k : Nat) (h1 : 1 ≤ k) (h2 : k ≤ 11) (hc : clsK k = 2) (x : S24) (hk : x.f0 = k) (A : Option Addr) (cap : Nat) (w : World) (hr : Kd.C (Kd.int .i64) w A x.f7.length x.f7) (hcap : x.f7.length ≤ cap) (hn : x.f1 < 0) :
    Calls Tryd.prog 10 #[evV x A cap] w fun e w' => e = .returned (.int .i64 180) ∧ Below w.heap.size w w' := by
  have hu24 := Tryd.underlying24
  have hu48 := Tryd.underlying48
  have hu46 := Tryd.underlying46
  have HR := Aside0.mk hr
  have HCAP := Aside0.mk hcap
  have HCL := Aside0.mk hc
  have HKK := Aside0.mk hk
  have hfo := fo_c2 k hc
  have HFO := Aside0.mk hfo
  have hwl := ws_len2 k
  have T1 := Aside0.mk True.intro
  clear hr hcap hc hk hfo
  have dn : decide (x.f1 < 0) = true := decide_eq_true hn
  clear hn
  go_enter Tryd.func10, Tryd.ntmps10
  go_upto_region 6 with (first
    | (go_at_call 23; clear T1; refine (form_c2 k h1 h2 HCL.out _ x (.slice A x.f7.length cap) _ HKK.out (hp_lt _ _ _ _ (heap_alloc_new _ _))).mono ?_; rintro e w1 ⟨_, bW, rfl, ⟨AF, rfl, hF⟩, hW, hb⟩; have BE := Aside0.mk (blk_below (hp_lt _ _ _ _ (heap_alloc_new w (.cells (evC x (.slice A x.f7.length cap)) 24))) hb); have BO := Aside0.mk (blk_below (hp_new _ (.cells (evC ⟨x.f0, 0, 0, 0, 0, 0, 0, []⟩ (.slice none 0 0)) 24) (w.heap.size + 1) (by rw [size_alloc])) hb); have BW := Aside0.mk hW; have FF := Aside0.mk hF; have HZ := Aside0.mk ((bel2 w (.cells (evC x (.slice A x.f7.length cap)) 24) (.cells (evC ⟨x.f0, 0, 0, 0, 0, 0, 0, []⟩ (.slice none 0 0)) 24)).trans (hb.mono (by rw [size_alloc, size_alloc]; omega))); clear hW hF hb)
    | (go_at_call 23; refine (form_c2 k h1 h2 HCL.out _ (⟨x.f0, 0, 0, 0, 0, 0, 0, []⟩ : S24) (.slice none 0 0) _ HKK.out (hp_lt _ _ _ _ BO.out)).mono ?_; rintro e w2 ⟨_, bX, rfl, ⟨AG, rfl, hG⟩, hX, hb⟩; have BF := Aside0.mk (blk_below (heap_alloc_new w1 (.cells #[.string (wordB k), .slice AF (foK k).length (foK k).length, .pointer none, .slice (some ⟨bW, 0, none⟩) (wsK k).length (wsK k).length, .pointer (some ⟨w.heap.size, 6, none⟩), .bool false] 48)) hb); have hb1 := (bel1 w1 (.cells #[.string (wordB k), .slice AF (foK k).length (foK k).length, .pointer none, .slice (some ⟨bW, 0, none⟩) (wsK k).length (wsK k).length, .pointer (some ⟨w.heap.size, 6, none⟩), .bool false] 48)).trans (hb.mono (by rw [size_alloc]; omega)); have n1_ := Aside0.mk (blk_below BE.out hb1); have n2_ := Aside0.mk (blk_below BO.out hb1); have n3_ := Aside0.mk (blk_below BW.out hb1); have n4_ := Aside0.mk (fun j o hj => by obtain ⟨ad, e1, e2, e3⟩ := FF.out j o hj; exact ⟨ad, e1, e2, pw_cell_below hb1 e3⟩ : ∀ (j o : Nat), (foK k)[j]? = some o → ∃ ad, AF = some ad ∧ ad.block ≠ w.heap.size ∧ w2.cell? (ad.add j) = some (.pointer (some ⟨w.heap.size, o, none⟩))); have n5_ := Aside0.mk (HZ.out.trans (hb1.mono HZ.out.size)); clear BE BO BW FF HZ hb1; have BE := n1_; have BO := n2_; have BW := n3_; have FF := n4_; have HZ := n5_; have GG := Aside0.mk hG; clear n1_ n2_ n3_ n4_ n5_ hG hX hb))
  have BG := Aside0.mk (heap_alloc_new w2 (.cells #[.string (wordB k), .slice AG (foK k).length (foK k).length, .pointer none, .slice (some ⟨bX, 0, none⟩) (wsK k).length (wsK k).length, .pointer (some ⟨w.heap.size + 1, 6, none⟩), .bool false] 48))
  have hb2 := bel1 w2 (.cells #[.string (wordB k), .slice AG (foK k).length (foK k).length, .pointer none, .slice (some ⟨bX, 0, none⟩) (wsK k).length (wsK k).length, .pointer (some ⟨w.heap.size + 1, 6, none⟩), .bool false] 48)
  have n1_ := Aside0.mk (blk_below BE.out hb2)
  have n2_ := Aside0.mk (blk_below BO.out hb2)
  have n3_ := Aside0.mk (blk_below BW.out hb2)
  have n6_ := Aside0.mk (blk_below BF.out hb2)
  have n5_ := Aside0.mk (HZ.out.trans (hb2.mono HZ.out.size))
  obtain ⟨ad1, hA1, hn1, hc1⟩ := FF.out 0 1 (by rw [HFO.out]; rfl)
  obtain ⟨ad2, hA2, hn2, hc2⟩ := GG.out 0 1 (by rw [HFO.out]; rfl)
  have x1 := Aside0.mk (pw_cell_below hb2 hc1)
  have x2 := Aside0.mk (pw_cell_below hb2 hc2)
  have N1 := Aside0.mk hn1
  have N2 := Aside0.mk hn2
  clear hb2 hc1 hc2 hn1 hn2 FF GG BE BO BW BF HZ
  generalize w1.heap.size = g4 at n6_ ⊢
  generalize w2.heap.size = g6 at BG ⊢
  generalize w2.alloc (.cells #[.string (wordB k), .slice AG (foK k).length (foK k).length, .pointer none, .slice (some ⟨bX, 0, none⟩) (wsK k).length (wsK k).length, .pointer (some ⟨w.heap.size + 1, 6, none⟩), .bool false] 48) = wz at *
  have BE := n1_
  have BO := n2_
  have BW := n3_
  have BF := n6_
  have HZ := n5_
  clear n1_ n2_ n3_ n5_ n6_
  subst hA1 hA2
  have y1 : wz.cell? ⟨g4, 1, none⟩ = some (.slice (some ad1) (foK k).length (foK k).length) := (blk_cell BF.out 1).trans rfl
  have y2 : wz.cell? ⟨g4, 2, none⟩ = some (.pointer none) := (blk_cell BF.out 2).trans rfl
  have y3 : wz.cell? ⟨g4, 3, none⟩ = some (.slice (some ⟨bW, 0, none⟩) (wsK k).length (wsK k).length) := (blk_cell BF.out 3).trans rfl
  have y4 : wz.cell? ⟨g4, 4, none⟩ = some (.pointer (some ⟨w.heap.size, 6, none⟩)) := (blk_cell BF.out 4).trans rfl
  have y5 : wz.cell? ⟨g4, 5, none⟩ = some (.bool false) := (blk_cell BF.out 5).trans rfl
  have z1 : wz.cell? ⟨g6, 1, none⟩ = some (.slice (some ad2) (foK k).length (foK k).length) := (blk_cell BG.out 1).trans rfl
  have z4 : wz.cell? ⟨g6, 4, none⟩ = some (.pointer (some ⟨w.heap.size + 1, 6, none⟩)) := (blk_cell BG.out 4).trans rfl
  rw [HFO.out] at y1 z1 ⊢
  have p1 : wz.cell? ad1 = some (.pointer (some ⟨w.heap.size, 1, none⟩)) := x1.out
  have p2 : wz.cell? ad2 = some (.pointer (some ⟨w.heap.size + 1, 1, none⟩)) := x2.out
  have e1 : wz.cell? ⟨w.heap.size, 1, none⟩ = some (.int .i64 x.f1) := (blk_cell BE.out 1).trans rfl
  have e6 : wz.cell? ⟨w.heap.size, 6, none⟩ = some (.int .i64 x.f6) := (blk_cell BE.out 6).trans rfl
  have o1 : wz.cell? ⟨w.heap.size + 1, 1, none⟩ = some (.int .i64 0) := (blk_cell BO.out 1).trans rfl
  have q1 : wz.frozen? ⟨w.heap.size + 1, 1, none⟩ = false := Lib.frozen_of_heap BO.out 1
  go_wp2_with (fail)
  refine wp_loop_rounds 2 ?_
  rw [rounds_succ]
  go_wp2_with (fail)
  go_ret
  exact ⟨rfl, HZ.out⟩
set_option maxRecDepth 100000 in
set_option maxHeartbeats 8000000 in
theorem check_c2_lo (k : Nat) (h1 : 1 ≤ k) (h2 : k ≤ 11) (hc : clsK k = 2) (x : S24) (hk : x.f0 = k) (A : Option Addr) (cap : Nat) (w : World) (hr : Kd.C (Kd.int .i64) w A x.f7.length x.f7) (hcap : x.f7.length ≤ cap) (hn : ¬ x.f1 < 0) (hm : x.f6 < 1) :
    Calls Tryd.prog 10 #[evV x A cap] w fun e w' => e = .returned (.int .i64 180) ∧ Below w.heap.size w w' := by
  have hu24 := Tryd.underlying24
  have hu48 := Tryd.underlying48
  have hu46 := Tryd.underlying46
  have HR := Aside0.mk hr
  have HCAP := Aside0.mk hcap
  have HCL := Aside0.mk hc
  have HKK := Aside0.mk hk
  have hfo := fo_c2 k hc
  have HFO := Aside0.mk hfo
  have hwl := ws_len2 k
  have T1 := Aside0.mk True.intro
  clear hr hcap hc hk hfo
  have dn : decide (x.f1 < 0) = false := decide_eq_false hn
  have d6 : decide (x.f6 < 1) = true := decide_eq_true hm
  clear hn hm
  go_enter Tryd.func10, Tryd.ntmps10
  go_upto_region 6 with (first
    | (go_at_call 23; clear T1; refine (form_c2 k h1 h2 HCL.out _ x (.slice A x.f7.length cap) _ HKK.out (hp_lt _ _ _ _ (heap_alloc_new _ _))).mono ?_; rintro e w1 ⟨_, bW, rfl, ⟨AF, rfl, hF⟩, hW, hb⟩; have BE := Aside0.mk (blk_below (hp_lt _ _ _ _ (heap_alloc_new w (.cells (evC x (.slice A x.f7.length cap)) 24))) hb); have BO := Aside0.mk (blk_below (hp_new _ (.cells (evC ⟨x.f0, 0, 0, 0, 0, 0, 0, []⟩ (.slice none 0 0)) 24) (w.heap.size + 1) (by rw [size_alloc])) hb); have BW := Aside0.mk hW; have FF := Aside0.mk hF; have HZ := Aside0.mk ((bel2 w (.cells (evC x (.slice A x.f7.length cap)) 24) (.cells (evC ⟨x.f0, 0, 0, 0, 0, 0, 0, []⟩ (.slice none 0 0)) 24)).trans (hb.mono (by rw [size_alloc, size_alloc]; omega))); clear hW hF hb)
    | (go_at_call 23; refine (form_c2 k h1 h2 HCL.out _ (⟨x.f0, 0, 0, 0, 0, 0, 0, []⟩ : S24) (.slice none 0 0) _ HKK.out (hp_lt _ _ _ _ BO.out)).mono ?_; rintro e w2 ⟨_, bX, rfl, ⟨AG, rfl, hG⟩, hX, hb⟩; have BF := Aside0.mk (blk_below (heap_alloc_new w1 (.cells #[.string (wordB k), .slice AF (foK k).length (foK k).length, .pointer none, .slice (some ⟨bW, 0, none⟩) (wsK k).length (wsK k).length, .pointer (some ⟨w.heap.size, 6, none⟩), .bool false] 48)) hb); have hb1 := (bel1 w1 (.cells #[.string (wordB k), .slice AF (foK k).length (foK k).length, .pointer none, .slice (some ⟨bW, 0, none⟩) (wsK k).length (wsK k).length, .pointer (some ⟨w.heap.size, 6, none⟩), .bool false] 48)).trans (hb.mono (by rw [size_alloc]; omega)); have n1_ := Aside0.mk (blk_below BE.out hb1); have n2_ := Aside0.mk (blk_below BO.out hb1); have n3_ := Aside0.mk (blk_below BW.out hb1); have n4_ := Aside0.mk (fun j o hj => by obtain ⟨ad, e1, e2, e3⟩ := FF.out j o hj; exact ⟨ad, e1, e2, pw_cell_below hb1 e3⟩ : ∀ (j o : Nat), (foK k)[j]? = some o → ∃ ad, AF = some ad ∧ ad.block ≠ w.heap.size ∧ w2.cell? (ad.add j) = some (.pointer (some ⟨w.heap.size, o, none⟩))); have n5_ := Aside0.mk (HZ.out.trans (hb1.mono HZ.out.size)); clear BE BO BW FF HZ hb1; have BE := n1_; have BO := n2_; have BW := n3_; have FF := n4_; have HZ := n5_; have GG := Aside0.mk hG; clear n1_ n2_ n3_ n4_ n5_ hG hX hb))
  have BG := Aside0.mk (heap_alloc_new w2 (.cells #[.string (wordB k), .slice AG (foK k).length (foK k).length, .pointer none, .slice (some ⟨bX, 0, none⟩) (wsK k).length (wsK k).length, .pointer (some ⟨w.heap.size + 1, 6, none⟩), .bool false] 48))
  have hb2 := bel1 w2 (.cells #[.string (wordB k), .slice AG (foK k).length (foK k).length, .pointer none, .slice (some ⟨bX, 0, none⟩) (wsK k).length (wsK k).length, .pointer (some ⟨w.heap.size + 1, 6, none⟩), .bool false] 48)
  have n1_ := Aside0.mk (blk_below BE.out hb2)
  have n2_ := Aside0.mk (blk_below BO.out hb2)
  have n3_ := Aside0.mk (blk_below BW.out hb2)
  have n6_ := Aside0.mk (blk_below BF.out hb2)
  have n5_ := Aside0.mk (HZ.out.trans (hb2.mono HZ.out.size))
  obtain ⟨ad1, hA1, hn1, hc1⟩ := FF.out 0 1 (by rw [HFO.out]; rfl)
  obtain ⟨ad2, hA2, hn2, hc2⟩ := GG.out 0 1 (by rw [HFO.out]; rfl)
  have x1 := Aside0.mk (pw_cell_below hb2 hc1)
  have x2 := Aside0.mk (pw_cell_below hb2 hc2)
  have N1 := Aside0.mk hn1
  have N2 := Aside0.mk hn2
  clear hb2 hc1 hc2 hn1 hn2 FF GG BE BO BW BF HZ
  generalize w1.heap.size = g4 at n6_ ⊢
  generalize w2.heap.size = g6 at BG ⊢
  generalize w2.alloc (.cells #[.string (wordB k), .slice AG (foK k).length (foK k).length, .pointer none, .slice (some ⟨bX, 0, none⟩) (wsK k).length (wsK k).length, .pointer (some ⟨w.heap.size + 1, 6, none⟩), .bool false] 48) = wz at *
  have BE := n1_
  have BO := n2_
  have BW := n3_
  have BF := n6_
  have HZ := n5_
  clear n1_ n2_ n3_ n5_ n6_
  subst hA1 hA2
  have y1 : wz.cell? ⟨g4, 1, none⟩ = some (.slice (some ad1) (foK k).length (foK k).length) := (blk_cell BF.out 1).trans rfl
  have y2 : wz.cell? ⟨g4, 2, none⟩ = some (.pointer none) := (blk_cell BF.out 2).trans rfl
  have y3 : wz.cell? ⟨g4, 3, none⟩ = some (.slice (some ⟨bW, 0, none⟩) (wsK k).length (wsK k).length) := (blk_cell BF.out 3).trans rfl
  have y4 : wz.cell? ⟨g4, 4, none⟩ = some (.pointer (some ⟨w.heap.size, 6, none⟩)) := (blk_cell BF.out 4).trans rfl
  have y5 : wz.cell? ⟨g4, 5, none⟩ = some (.bool false) := (blk_cell BF.out 5).trans rfl
  have z1 : wz.cell? ⟨g6, 1, none⟩ = some (.slice (some ad2) (foK k).length (foK k).length) := (blk_cell BG.out 1).trans rfl
  have z4 : wz.cell? ⟨g6, 4, none⟩ = some (.pointer (some ⟨w.heap.size + 1, 6, none⟩)) := (blk_cell BG.out 4).trans rfl
  rw [HFO.out] at y1 z1 ⊢
  have p1 : wz.cell? ad1 = some (.pointer (some ⟨w.heap.size, 1, none⟩)) := x1.out
  have p2 : wz.cell? ad2 = some (.pointer (some ⟨w.heap.size + 1, 1, none⟩)) := x2.out
  have e1 : wz.cell? ⟨w.heap.size, 1, none⟩ = some (.int .i64 x.f1) := (blk_cell BE.out 1).trans rfl
  have e6 : wz.cell? ⟨w.heap.size, 6, none⟩ = some (.int .i64 x.f6) := (blk_cell BE.out 6).trans rfl
  have o1 : wz.cell? ⟨w.heap.size + 1, 1, none⟩ = some (.int .i64 0) := (blk_cell BO.out 1).trans rfl
  have q1 : wz.frozen? ⟨w.heap.size + 1, 1, none⟩ = false := Lib.frozen_of_heap BO.out 1
  go_wp2_with (fail)
  refine wp_loop_rounds 2 ?_
  rw [rounds_succ]
  go_wp2_with (fail)
  go_region
  have NE4 := Aside0.mk (show g4 ≠ w.heap.size + 1 by rintro rfl; have h1 := BF.out.symm.trans BO.out; injection h1 with h1; injection h1 with _ h2 _; cases h2)
  have NE6 := Aside0.mk (show g6 ≠ w.heap.size + 1 by rintro rfl; have h1 := BG.out.symm.trans BO.out; injection h1 with h1; injection h1 with _ h2 _; cases h2)
  go_wp2_with (fail)
  clear y1 y2 y3 y4 y5 z1 z4 p1 p2 e1 e6 o1 q1
  have n1_ : Aside0 (((wz.setCell ⟨w.heap.size + 1, 1, none⟩ (.int .i64 x.f1)).drew).heap[w.heap.size]? = some (.cells (evC x (.slice A x.f7.length cap)) 24 (0, 0))) := ⟨hp_setne wz _ _ _ 1 _ (by omega) BE.out⟩
  have n2_ : Aside0 (((wz.setCell ⟨w.heap.size + 1, 1, none⟩ (.int .i64 x.f1)).drew).heap[w.heap.size + 1]? = some (.cells (evC ⟨x.f0, x.f1, 0, 0, 0, 0, 0, []⟩ (.slice none 0 0)) 24 (0, 0))) := ⟨blk_put (w := wz) BO.out 1 _ rfl⟩
  have n3_ : Aside0 (((wz.setCell ⟨w.heap.size + 1, 1, none⟩ (.int .i64 x.f1)).drew).heap[g4]? = some (.cells #[.string (wordB k), .slice (some ad1) (foK k).length (foK k).length, .pointer none, .slice (some ⟨bW, 0, none⟩) (wsK k).length (wsK k).length, .pointer (some ⟨w.heap.size, 6, none⟩), .bool false] 48 (0, 0))) := ⟨hp_setne wz _ _ _ 1 _ NE4.out BF.out⟩
  have n4_ : Aside0 (((wz.setCell ⟨w.heap.size + 1, 1, none⟩ (.int .i64 x.f1)).drew).heap[g6]? = some (.cells #[.string (wordB k), .slice (some ad2) (foK k).length (foK k).length, .pointer none, .slice (some ⟨bX, 0, none⟩) (wsK k).length (wsK k).length, .pointer (some ⟨w.heap.size + 1, 6, none⟩), .bool false] 48 (0, 0))) := ⟨hp_setne wz _ _ _ 1 _ NE6.out BG.out⟩
  have n5_ : Aside0 (Below w.heap.size w ((wz.setCell ⟨w.heap.size + 1, 1, none⟩ (.int .i64 x.f1)).drew)) := ⟨below_drew (Below.setCell HZ.out (p := ⟨w.heap.size + 1, 1, none⟩) (Nat.le_succ _) _)⟩
  clear BE BO BF BG HZ
  generalize (wz.setCell ⟨w.heap.size + 1, 1, none⟩ (.int .i64 x.f1)).drew = wy at n1_ n2_ n3_ n4_ n5_ ⊢
  have BE := n1_
  have BO := n2_
  have BF := n3_
  have BG := n4_
  have HZ := n5_
  clear n1_ n2_ n3_ n4_ n5_
  have y2 : wy.cell? ⟨g4, 2, none⟩ = some (.pointer none) := (blk_cell BF.out 2).trans rfl
  have y3 : wy.cell? ⟨g4, 3, none⟩ = some (.slice (some ⟨bW, 0, none⟩) (wsK k).length (wsK k).length) := (blk_cell BF.out 3).trans rfl
  have y4 : wy.cell? ⟨g4, 4, none⟩ = some (.pointer (some ⟨w.heap.size, 6, none⟩)) := (blk_cell BF.out 4).trans rfl
  have y5 : wy.cell? ⟨g4, 5, none⟩ = some (.bool false) := (blk_cell BF.out 5).trans rfl
  have z4 : wy.cell? ⟨g6, 4, none⟩ = some (.pointer (some ⟨w.heap.size + 1, 6, none⟩)) := (blk_cell BG.out 4).trans rfl
  have e6 : wy.cell? ⟨w.heap.size, 6, none⟩ = some (.int .i64 x.f6) := (blk_cell BE.out 6).trans rfl
  have o6 : wy.cell? ⟨w.heap.size + 1, 6, none⟩ = some (.int .i64 0) := (blk_cell BO.out 6).trans rfl
  have q6 : wy.frozen? ⟨w.heap.size + 1, 6, none⟩ = false := Lib.frozen_of_heap BO.out 6
  rw [rounds_succ]
  go_wp2_with (fail)
  go_quiet (fail)
  all_goals go_wp2_with (fail)
  all_goals go_ret
  all_goals exact ⟨rfl, pw_below_drewN HZ.out _⟩
set_option maxRecDepth 100000 in
set_option maxHeartbeats 8000000 in
theorem check_c2_hi (k : Nat) (h1 : 1 ≤ k) (h2 : k ≤ 11) (hc : clsK k = 2) (x : S24) (hk : x.f0 = k) (A : Option Addr) (cap : Nat) (w : World) (hr : Kd.C (Kd.int .i64) w A x.f7.length x.f7) (hcap : x.f7.length ≤ cap) (hn : ¬ x.f1 < 0) (hm : ¬ x.f6 < 1) (hw : ((wsK k).length : Int) ≤ x.f6) :
    Calls Tryd.prog 10 #[evV x A cap] w fun e w' => e = .returned (.int .i64 180) ∧ Below w.heap.size w w' := by
  have hu24 := Tryd.underlying24
  have hu48 := Tryd.underlying48
  have hu46 := Tryd.underlying46
  have HR := Aside0.mk hr
  have HCAP := Aside0.mk hcap
  have HCL := Aside0.mk hc
  have HKK := Aside0.mk hk
  have hfo := fo_c2 k hc
  have HFO := Aside0.mk hfo
  have hwl := ws_len2 k
  have T1 := Aside0.mk True.intro
  clear hr hcap hc hk hfo
  have dn : decide (x.f1 < 0) = false := decide_eq_false hn
  have d6 : decide (x.f6 < 1) = false := decide_eq_false hm
  have d7 : decide (((wsK k).length : Int) ≤ x.f6) = true := decide_eq_true hw
  clear hn hm hw
  go_enter Tryd.func10, Tryd.ntmps10
  go_upto_region 6 with (first
    | (go_at_call 23; clear T1; refine (form_c2 k h1 h2 HCL.out _ x (.slice A x.f7.length cap) _ HKK.out (hp_lt _ _ _ _ (heap_alloc_new _ _))).mono ?_; rintro e w1 ⟨_, bW, rfl, ⟨AF, rfl, hF⟩, hW, hb⟩; have BE := Aside0.mk (blk_below (hp_lt _ _ _ _ (heap_alloc_new w (.cells (evC x (.slice A x.f7.length cap)) 24))) hb); have BO := Aside0.mk (blk_below (hp_new _ (.cells (evC ⟨x.f0, 0, 0, 0, 0, 0, 0, []⟩ (.slice none 0 0)) 24) (w.heap.size + 1) (by rw [size_alloc])) hb); have BW := Aside0.mk hW; have FF := Aside0.mk hF; have HZ := Aside0.mk ((bel2 w (.cells (evC x (.slice A x.f7.length cap)) 24) (.cells (evC ⟨x.f0, 0, 0, 0, 0, 0, 0, []⟩ (.slice none 0 0)) 24)).trans (hb.mono (by rw [size_alloc, size_alloc]; omega))); clear hW hF hb)
    | (go_at_call 23; refine (form_c2 k h1 h2 HCL.out _ (⟨x.f0, 0, 0, 0, 0, 0, 0, []⟩ : S24) (.slice none 0 0) _ HKK.out (hp_lt _ _ _ _ BO.out)).mono ?_; rintro e w2 ⟨_, bX, rfl, ⟨AG, rfl, hG⟩, hX, hb⟩; have BF := Aside0.mk (blk_below (heap_alloc_new w1 (.cells #[.string (wordB k), .slice AF (foK k).length (foK k).length, .pointer none, .slice (some ⟨bW, 0, none⟩) (wsK k).length (wsK k).length, .pointer (some ⟨w.heap.size, 6, none⟩), .bool false] 48)) hb); have hb1 := (bel1 w1 (.cells #[.string (wordB k), .slice AF (foK k).length (foK k).length, .pointer none, .slice (some ⟨bW, 0, none⟩) (wsK k).length (wsK k).length, .pointer (some ⟨w.heap.size, 6, none⟩), .bool false] 48)).trans (hb.mono (by rw [size_alloc]; omega)); have n1_ := Aside0.mk (blk_below BE.out hb1); have n2_ := Aside0.mk (blk_below BO.out hb1); have n3_ := Aside0.mk (blk_below BW.out hb1); have n4_ := Aside0.mk (fun j o hj => by obtain ⟨ad, e1, e2, e3⟩ := FF.out j o hj; exact ⟨ad, e1, e2, pw_cell_below hb1 e3⟩ : ∀ (j o : Nat), (foK k)[j]? = some o → ∃ ad, AF = some ad ∧ ad.block ≠ w.heap.size ∧ w2.cell? (ad.add j) = some (.pointer (some ⟨w.heap.size, o, none⟩))); have n5_ := Aside0.mk (HZ.out.trans (hb1.mono HZ.out.size)); clear BE BO BW FF HZ hb1; have BE := n1_; have BO := n2_; have BW := n3_; have FF := n4_; have HZ := n5_; have GG := Aside0.mk hG; clear n1_ n2_ n3_ n4_ n5_ hG hX hb))
  have BG := Aside0.mk (heap_alloc_new w2 (.cells #[.string (wordB k), .slice AG (foK k).length (foK k).length, .pointer none, .slice (some ⟨bX, 0, none⟩) (wsK k).length (wsK k).length, .pointer (some ⟨w.heap.size + 1, 6, none⟩), .bool false] 48))
  have hb2 := bel1 w2 (.cells #[.string (wordB k), .slice AG (foK k).length (foK k).length, .pointer none, .slice (some ⟨bX, 0, none⟩) (wsK k).length (wsK k).length, .pointer (some ⟨w.heap.size + 1, 6, none⟩), .bool false] 48)
  have n1_ := Aside0.mk (blk_below BE.out hb2)
  have n2_ := Aside0.mk (blk_below BO.out hb2)
  have n3_ := Aside0.mk (blk_below BW.out hb2)
  have n6_ := Aside0.mk (blk_below BF.out hb2)
  have n5_ := Aside0.mk (HZ.out.trans (hb2.mono HZ.out.size))
  obtain ⟨ad1, hA1, hn1, hc1⟩ := FF.out 0 1 (by rw [HFO.out]; rfl)
  obtain ⟨ad2, hA2, hn2, hc2⟩ := GG.out 0 1 (by rw [HFO.out]; rfl)
  have x1 := Aside0.mk (pw_cell_below hb2 hc1)
  have x2 := Aside0.mk (pw_cell_below hb2 hc2)
  have N1 := Aside0.mk hn1
  have N2 := Aside0.mk hn2
  clear hb2 hc1 hc2 hn1 hn2 FF GG BE BO BW BF HZ
  generalize w1.heap.size = g4 at n6_ ⊢
  generalize w2.heap.size = g6 at BG ⊢
  generalize w2.alloc (.cells #[.string (wordB k), .slice AG (foK k).length (foK k).length, .pointer none, .slice (some ⟨bX, 0, none⟩) (wsK k).length (wsK k).length, .pointer (some ⟨w.heap.size + 1, 6, none⟩), .bool false] 48) = wz at *
  have BE := n1_
  have BO := n2_
  have BW := n3_
  have BF := n6_
  have HZ := n5_
  clear n1_ n2_ n3_ n5_ n6_
  subst hA1 hA2
  have y1 : wz.cell? ⟨g4, 1, none⟩ = some (.slice (some ad1) (foK k).length (foK k).length) := (blk_cell BF.out 1).trans rfl
  have y2 : wz.cell? ⟨g4, 2, none⟩ = some (.pointer none) := (blk_cell BF.out 2).trans rfl
  have y3 : wz.cell? ⟨g4, 3, none⟩ = some (.slice (some ⟨bW, 0, none⟩) (wsK k).length (wsK k).length) := (blk_cell BF.out 3).trans rfl
  have y4 : wz.cell? ⟨g4, 4, none⟩ = some (.pointer (some ⟨w.heap.size, 6, none⟩)) := (blk_cell BF.out 4).trans rfl
  have y5 : wz.cell? ⟨g4, 5, none⟩ = some (.bool false) := (blk_cell BF.out 5).trans rfl
  have z1 : wz.cell? ⟨g6, 1, none⟩ = some (.slice (some ad2) (foK k).length (foK k).length) := (blk_cell BG.out 1).trans rfl
  have z4 : wz.cell? ⟨g6, 4, none⟩ = some (.pointer (some ⟨w.heap.size + 1, 6, none⟩)) := (blk_cell BG.out 4).trans rfl
  rw [HFO.out] at y1 z1 ⊢
  have p1 : wz.cell? ad1 = some (.pointer (some ⟨w.heap.size, 1, none⟩)) := x1.out
  have p2 : wz.cell? ad2 = some (.pointer (some ⟨w.heap.size + 1, 1, none⟩)) := x2.out
  have e1 : wz.cell? ⟨w.heap.size, 1, none⟩ = some (.int .i64 x.f1) := (blk_cell BE.out 1).trans rfl
  have e6 : wz.cell? ⟨w.heap.size, 6, none⟩ = some (.int .i64 x.f6) := (blk_cell BE.out 6).trans rfl
  have o1 : wz.cell? ⟨w.heap.size + 1, 1, none⟩ = some (.int .i64 0) := (blk_cell BO.out 1).trans rfl
  have q1 : wz.frozen? ⟨w.heap.size + 1, 1, none⟩ = false := Lib.frozen_of_heap BO.out 1
  go_wp2_with (fail)
  refine wp_loop_rounds 2 ?_
  rw [rounds_succ]
  go_wp2_with (fail)
  go_region
  have NE4 := Aside0.mk (show g4 ≠ w.heap.size + 1 by rintro rfl; have h1 := BF.out.symm.trans BO.out; injection h1 with h1; injection h1 with _ h2 _; cases h2)
  have NE6 := Aside0.mk (show g6 ≠ w.heap.size + 1 by rintro rfl; have h1 := BG.out.symm.trans BO.out; injection h1 with h1; injection h1 with _ h2 _; cases h2)
  go_wp2_with (fail)
  clear y1 y2 y3 y4 y5 z1 z4 p1 p2 e1 e6 o1 q1
  have n1_ : Aside0 (((wz.setCell ⟨w.heap.size + 1, 1, none⟩ (.int .i64 x.f1)).drew).heap[w.heap.size]? = some (.cells (evC x (.slice A x.f7.length cap)) 24 (0, 0))) := ⟨hp_setne wz _ _ _ 1 _ (by omega) BE.out⟩
  have n2_ : Aside0 (((wz.setCell ⟨w.heap.size + 1, 1, none⟩ (.int .i64 x.f1)).drew).heap[w.heap.size + 1]? = some (.cells (evC ⟨x.f0, x.f1, 0, 0, 0, 0, 0, []⟩ (.slice none 0 0)) 24 (0, 0))) := ⟨blk_put (w := wz) BO.out 1 _ rfl⟩
  have n3_ : Aside0 (((wz.setCell ⟨w.heap.size + 1, 1, none⟩ (.int .i64 x.f1)).drew).heap[g4]? = some (.cells #[.string (wordB k), .slice (some ad1) (foK k).length (foK k).length, .pointer none, .slice (some ⟨bW, 0, none⟩) (wsK k).length (wsK k).length, .pointer (some ⟨w.heap.size, 6, none⟩), .bool false] 48 (0, 0))) := ⟨hp_setne wz _ _ _ 1 _ NE4.out BF.out⟩
  have n4_ : Aside0 (((wz.setCell ⟨w.heap.size + 1, 1, none⟩ (.int .i64 x.f1)).drew).heap[g6]? = some (.cells #[.string (wordB k), .slice (some ad2) (foK k).length (foK k).length, .pointer none, .slice (some ⟨bX, 0, none⟩) (wsK k).length (wsK k).length, .pointer (some ⟨w.heap.size + 1, 6, none⟩), .bool false] 48 (0, 0))) := ⟨hp_setne wz _ _ _ 1 _ NE6.out BG.out⟩
  have n5_ : Aside0 (Below w.heap.size w ((wz.setCell ⟨w.heap.size + 1, 1, none⟩ (.int .i64 x.f1)).drew)) := ⟨below_drew (Below.setCell HZ.out (p := ⟨w.heap.size + 1, 1, none⟩) (Nat.le_succ _) _)⟩
  clear BE BO BF BG HZ
  generalize (wz.setCell ⟨w.heap.size + 1, 1, none⟩ (.int .i64 x.f1)).drew = wy at n1_ n2_ n3_ n4_ n5_ ⊢
  have BE := n1_
  have BO := n2_
  have BF := n3_
  have BG := n4_
  have HZ := n5_
  clear n1_ n2_ n3_ n4_ n5_
  have y2 : wy.cell? ⟨g4, 2, none⟩ = some (.pointer none) := (blk_cell BF.out 2).trans rfl
  have y3 : wy.cell? ⟨g4, 3, none⟩ = some (.slice (some ⟨bW, 0, none⟩) (wsK k).length (wsK k).length) := (blk_cell BF.out 3).trans rfl
  have y4 : wy.cell? ⟨g4, 4, none⟩ = some (.pointer (some ⟨w.heap.size, 6, none⟩)) := (blk_cell BF.out 4).trans rfl
  have y5 : wy.cell? ⟨g4, 5, none⟩ = some (.bool false) := (blk_cell BF.out 5).trans rfl
  have z4 : wy.cell? ⟨g6, 4, none⟩ = some (.pointer (some ⟨w.heap.size + 1, 6, none⟩)) := (blk_cell BG.out 4).trans rfl
  have e6 : wy.cell? ⟨w.heap.size, 6, none⟩ = some (.int .i64 x.f6) := (blk_cell BE.out 6).trans rfl
  have o6 : wy.cell? ⟨w.heap.size + 1, 6, none⟩ = some (.int .i64 0) := (blk_cell BO.out 6).trans rfl
  have q6 : wy.frozen? ⟨w.heap.size + 1, 6, none⟩ = false := Lib.frozen_of_heap BO.out 6
  rw [rounds_succ]
  go_wp2_with (fail)
  go_quiet (fail)
  all_goals go_wp2_with (fail)
  all_goals go_ret
  all_goals exact ⟨rfl, pw_below_drewN HZ.out _⟩
set_option maxRecDepth 100000 in
set_option maxHeartbeats 8000000 in
theorem check_c2_yes (k : Nat) (h1 : 1 ≤ k) (h2 : k ≤ 11) (hc : clsK k = 2) (x : S24) (hk : x.f0 = k) (A : Option Addr) (cap : Nat) (w : World) (hr : Kd.C (Kd.int .i64) w A x.f7.length x.f7) (hcap : x.f7.length ≤ cap) (hn : ¬ x.f1 < 0) (hm : ¬ x.f6 < 1) (hw : ¬ ((wsK k).length : Int) ≤ x.f6) (hs : sameP x ⟨x.f0, x.f1, 0, 0, 0, 0, x.f6, []⟩) :
    Calls Tryd.prog 10 #[evV x A cap] w fun e w' => e = .returned (.int .i64 0) ∧ Below w.heap.size w w' := by
  have hu24 := Tryd.underlying24
  have hu48 := Tryd.underlying48
  have hu46 := Tryd.underlying46
  have HR := Aside0.mk hr
  have HCAP := Aside0.mk hcap
  have HCL := Aside0.mk hc
  have HKK := Aside0.mk hk
  have hfo := fo_c2 k hc
  have HFO := Aside0.mk hfo
  have hwl := ws_len2 k
  have T1 := Aside0.mk True.intro
  clear hr hcap hc hk hfo
  have dn : decide (x.f1 < 0) = false := decide_eq_false hn
  have d6 : decide (x.f6 < 1) = false := decide_eq_false hm
  have d7 : decide (((wsK k).length : Int) ≤ x.f6) = false := decide_eq_false hw
  have SM := Aside0.mk hs
  have RI : Aside0 (risesB x.f7 = true) := ⟨by rw [show x.f7 = [] from hs.2.2.2.2.2.2.2]; rfl⟩
  clear hn hm hw hs
  go_enter Tryd.func10, Tryd.ntmps10
  go_upto_region 6 with (first
    | (go_at_call 23; clear T1; refine (form_c2 k h1 h2 HCL.out _ x (.slice A x.f7.length cap) _ HKK.out (hp_lt _ _ _ _ (heap_alloc_new _ _))).mono ?_; rintro e w1 ⟨_, bW, rfl, ⟨AF, rfl, hF⟩, hW, hb⟩; have BE := Aside0.mk (blk_below (hp_lt _ _ _ _ (heap_alloc_new w (.cells (evC x (.slice A x.f7.length cap)) 24))) hb); have BO := Aside0.mk (blk_below (hp_new _ (.cells (evC ⟨x.f0, 0, 0, 0, 0, 0, 0, []⟩ (.slice none 0 0)) 24) (w.heap.size + 1) (by rw [size_alloc])) hb); have BW := Aside0.mk hW; have FF := Aside0.mk hF; have HZ := Aside0.mk ((bel2 w (.cells (evC x (.slice A x.f7.length cap)) 24) (.cells (evC ⟨x.f0, 0, 0, 0, 0, 0, 0, []⟩ (.slice none 0 0)) 24)).trans (hb.mono (by rw [size_alloc, size_alloc]; omega))); clear hW hF hb)
    | (go_at_call 23; refine (form_c2 k h1 h2 HCL.out _ (⟨x.f0, 0, 0, 0, 0, 0, 0, []⟩ : S24) (.slice none 0 0) _ HKK.out (hp_lt _ _ _ _ BO.out)).mono ?_; rintro e w2 ⟨_, bX, rfl, ⟨AG, rfl, hG⟩, hX, hb⟩; have BF := Aside0.mk (blk_below (heap_alloc_new w1 (.cells #[.string (wordB k), .slice AF (foK k).length (foK k).length, .pointer none, .slice (some ⟨bW, 0, none⟩) (wsK k).length (wsK k).length, .pointer (some ⟨w.heap.size, 6, none⟩), .bool false] 48)) hb); have hb1 := (bel1 w1 (.cells #[.string (wordB k), .slice AF (foK k).length (foK k).length, .pointer none, .slice (some ⟨bW, 0, none⟩) (wsK k).length (wsK k).length, .pointer (some ⟨w.heap.size, 6, none⟩), .bool false] 48)).trans (hb.mono (by rw [size_alloc]; omega)); have n1_ := Aside0.mk (blk_below BE.out hb1); have n2_ := Aside0.mk (blk_below BO.out hb1); have n3_ := Aside0.mk (blk_below BW.out hb1); have n4_ := Aside0.mk (fun j o hj => by obtain ⟨ad, e1, e2, e3⟩ := FF.out j o hj; exact ⟨ad, e1, e2, pw_cell_below hb1 e3⟩ : ∀ (j o : Nat), (foK k)[j]? = some o → ∃ ad, AF = some ad ∧ ad.block ≠ w.heap.size ∧ w2.cell? (ad.add j) = some (.pointer (some ⟨w.heap.size, o, none⟩))); have n5_ := Aside0.mk (HZ.out.trans (hb1.mono HZ.out.size)); clear BE BO BW FF HZ hb1; have BE := n1_; have BO := n2_; have BW := n3_; have FF := n4_; have HZ := n5_; have GG := Aside0.mk hG; clear n1_ n2_ n3_ n4_ n5_ hG hX hb))
  have BG := Aside0.mk (heap_alloc_new w2 (.cells #[.string (wordB k), .slice AG (foK k).length (foK k).length, .pointer none, .slice (some ⟨bX, 0, none⟩) (wsK k).length (wsK k).length, .pointer (some ⟨w.heap.size + 1, 6, none⟩), .bool false] 48))
  have hb2 := bel1 w2 (.cells #[.string (wordB k), .slice AG (foK k).length (foK k).length, .pointer none, .slice (some ⟨bX, 0, none⟩) (wsK k).length (wsK k).length, .pointer (some ⟨w.heap.size + 1, 6, none⟩), .bool false] 48)
  have n1_ := Aside0.mk (blk_below BE.out hb2)
  have n2_ := Aside0.mk (blk_below BO.out hb2)
  have n3_ := Aside0.mk (blk_below BW.out hb2)
  have n6_ := Aside0.mk (blk_below BF.out hb2)
  have n5_ := Aside0.mk (HZ.out.trans (hb2.mono HZ.out.size))
  obtain ⟨ad1, hA1, hn1, hc1⟩ := FF.out 0 1 (by rw [HFO.out]; rfl)
  obtain ⟨ad2, hA2, hn2, hc2⟩ := GG.out 0 1 (by rw [HFO.out]; rfl)
  have x1 := Aside0.mk (pw_cell_below hb2 hc1)
  have x2 := Aside0.mk (pw_cell_below hb2 hc2)
  have N1 := Aside0.mk hn1
  have N2 := Aside0.mk hn2
  clear hb2 hc1 hc2 hn1 hn2 FF GG BE BO BW BF HZ
  generalize w1.heap.size = g4 at n6_ ⊢
  generalize w2.heap.size = g6 at BG ⊢
  generalize w2.alloc (.cells #[.string (wordB k), .slice AG (foK k).length (foK k).length, .pointer none, .slice (some ⟨bX, 0, none⟩) (wsK k).length (wsK k).length, .pointer (some ⟨w.heap.size + 1, 6, none⟩), .bool false] 48) = wz at *
  have BE := n1_
  have BO := n2_
  have BW := n3_
  have BF := n6_
  have HZ := n5_
  clear n1_ n2_ n3_ n5_ n6_
  subst hA1 hA2
  have y1 : wz.cell? ⟨g4, 1, none⟩ = some (.slice (some ad1) (foK k).length (foK k).length) := (blk_cell BF.out 1).trans rfl
  have y2 : wz.cell? ⟨g4, 2, none⟩ = some (.pointer none) := (blk_cell BF.out 2).trans rfl
  have y3 : wz.cell? ⟨g4, 3, none⟩ = some (.slice (some ⟨bW, 0, none⟩) (wsK k).length (wsK k).length) := (blk_cell BF.out 3).trans rfl
  have y4 : wz.cell? ⟨g4, 4, none⟩ = some (.pointer (some ⟨w.heap.size, 6, none⟩)) := (blk_cell BF.out 4).trans rfl
  have y5 : wz.cell? ⟨g4, 5, none⟩ = some (.bool false) := (blk_cell BF.out 5).trans rfl
  have z1 : wz.cell? ⟨g6, 1, none⟩ = some (.slice (some ad2) (foK k).length (foK k).length) := (blk_cell BG.out 1).trans rfl
  have z4 : wz.cell? ⟨g6, 4, none⟩ = some (.pointer (some ⟨w.heap.size + 1, 6, none⟩)) := (blk_cell BG.out 4).trans rfl
  rw [HFO.out] at y1 z1 ⊢
  have p1 : wz.cell? ad1 = some (.pointer (some ⟨w.heap.size, 1, none⟩)) := x1.out
  have p2 : wz.cell? ad2 = some (.pointer (some ⟨w.heap.size + 1, 1, none⟩)) := x2.out
  have e1 : wz.cell? ⟨w.heap.size, 1, none⟩ = some (.int .i64 x.f1) := (blk_cell BE.out 1).trans rfl
  have e6 : wz.cell? ⟨w.heap.size, 6, none⟩ = some (.int .i64 x.f6) := (blk_cell BE.out 6).trans rfl
  have o1 : wz.cell? ⟨w.heap.size + 1, 1, none⟩ = some (.int .i64 0) := (blk_cell BO.out 1).trans rfl
  have q1 : wz.frozen? ⟨w.heap.size + 1, 1, none⟩ = false := Lib.frozen_of_heap BO.out 1
  go_wp2_with (fail)
  refine wp_loop_rounds 2 ?_
  rw [rounds_succ]
  go_wp2_with (fail)
  go_region
  have NE4 := Aside0.mk (show g4 ≠ w.heap.size + 1 by rintro rfl; have h1 := BF.out.symm.trans BO.out; injection h1 with h1; injection h1 with _ h2 _; cases h2)
  have NE6 := Aside0.mk (show g6 ≠ w.heap.size + 1 by rintro rfl; have h1 := BG.out.symm.trans BO.out; injection h1 with h1; injection h1 with _ h2 _; cases h2)
  go_wp2_with (fail)
  clear y1 y2 y3 y4 y5 z1 z4 p1 p2 e1 e6 o1 q1
  have n1_ : Aside0 (((wz.setCell ⟨w.heap.size + 1, 1, none⟩ (.int .i64 x.f1)).drew).heap[w.heap.size]? = some (.cells (evC x (.slice A x.f7.length cap)) 24 (0, 0))) := ⟨hp_setne wz _ _ _ 1 _ (by omega) BE.out⟩
  have n2_ : Aside0 (((wz.setCell ⟨w.heap.size + 1, 1, none⟩ (.int .i64 x.f1)).drew).heap[w.heap.size + 1]? = some (.cells (evC ⟨x.f0, x.f1, 0, 0, 0, 0, 0, []⟩ (.slice none 0 0)) 24 (0, 0))) := ⟨blk_put (w := wz) BO.out 1 _ rfl⟩
  have n3_ : Aside0 (((wz.setCell ⟨w.heap.size + 1, 1, none⟩ (.int .i64 x.f1)).drew).heap[g4]? = some (.cells #[.string (wordB k), .slice (some ad1) (foK k).length (foK k).length, .pointer none, .slice (some ⟨bW, 0, none⟩) (wsK k).length (wsK k).length, .pointer (some ⟨w.heap.size, 6, none⟩), .bool false] 48 (0, 0))) := ⟨hp_setne wz _ _ _ 1 _ NE4.out BF.out⟩
  have n4_ : Aside0 (((wz.setCell ⟨w.heap.size + 1, 1, none⟩ (.int .i64 x.f1)).drew).heap[g6]? = some (.cells #[.string (wordB k), .slice (some ad2) (foK k).length (foK k).length, .pointer none, .slice (some ⟨bX, 0, none⟩) (wsK k).length (wsK k).length, .pointer (some ⟨w.heap.size + 1, 6, none⟩), .bool false] 48 (0, 0))) := ⟨hp_setne wz _ _ _ 1 _ NE6.out BG.out⟩
  have n5_ : Aside0 (Below w.heap.size w ((wz.setCell ⟨w.heap.size + 1, 1, none⟩ (.int .i64 x.f1)).drew)) := ⟨below_drew (Below.setCell HZ.out (p := ⟨w.heap.size + 1, 1, none⟩) (Nat.le_succ _) _)⟩
  clear BE BO BF BG HZ
  generalize (wz.setCell ⟨w.heap.size + 1, 1, none⟩ (.int .i64 x.f1)).drew = wy at n1_ n2_ n3_ n4_ n5_ ⊢
  have BE := n1_
  have BO := n2_
  have BF := n3_
  have BG := n4_
  have HZ := n5_
  clear n1_ n2_ n3_ n4_ n5_
  have y2 : wy.cell? ⟨g4, 2, none⟩ = some (.pointer none) := (blk_cell BF.out 2).trans rfl
  have y3 : wy.cell? ⟨g4, 3, none⟩ = some (.slice (some ⟨bW, 0, none⟩) (wsK k).length (wsK k).length) := (blk_cell BF.out 3).trans rfl
  have y4 : wy.cell? ⟨g4, 4, none⟩ = some (.pointer (some ⟨w.heap.size, 6, none⟩)) := (blk_cell BF.out 4).trans rfl
  have y5 : wy.cell? ⟨g4, 5, none⟩ = some (.bool false) := (blk_cell BF.out 5).trans rfl
  have z4 : wy.cell? ⟨g6, 4, none⟩ = some (.pointer (some ⟨w.heap.size + 1, 6, none⟩)) := (blk_cell BG.out 4).trans rfl
  have e6 : wy.cell? ⟨w.heap.size, 6, none⟩ = some (.int .i64 x.f6) := (blk_cell BE.out 6).trans rfl
  have o6 : wy.cell? ⟨w.heap.size + 1, 6, none⟩ = some (.int .i64 0) := (blk_cell BO.out 6).trans rfl
  have q6 : wy.frozen? ⟨w.heap.size + 1, 6, none⟩ = false := Lib.frozen_of_heap BO.out 6
  rw [rounds_succ]
  go_wp2_with (fail)
  go_quiet (fail)
  go_wp2_with (fail)
  have n1_ : Aside0 ((wy.drewN nq).heap[w.heap.size]? = some (.cells (evC x (.slice A x.f7.length cap)) 24 (0, 0))) := ⟨BE.out⟩
  have n2_ : Aside0 ((wy.drewN nq).heap[w.heap.size + 1]? = some (.cells (evC ⟨x.f0, x.f1, 0, 0, 0, 0, 0, []⟩ (.slice none 0 0)) 24 (0, 0))) := ⟨BO.out⟩
  have n3_ : Aside0 ((wy.drewN nq).heap[g4]? = some (.cells #[.string (wordB k), .slice (some ad1) (foK k).length (foK k).length, .pointer none, .slice (some ⟨bW, 0, none⟩) (wsK k).length (wsK k).length, .pointer (some ⟨w.heap.size, 6, none⟩), .bool false] 48 (0, 0))) := ⟨BF.out⟩
  have n4_ : Aside0 ((wy.drewN nq).heap[g6]? = some (.cells #[.string (wordB k), .slice (some ad2) (foK k).length (foK k).length, .pointer none, .slice (some ⟨bX, 0, none⟩) (wsK k).length (wsK k).length, .pointer (some ⟨w.heap.size + 1, 6, none⟩), .bool false] 48 (0, 0))) := ⟨BG.out⟩
  have n5_ : Aside0 (Below w.heap.size w (wy.drewN nq)) := ⟨pw_below_drewN HZ.out _⟩
  clear BE BO BF BG HZ
  generalize wy.drewN nq = wx at n1_ n2_ n3_ n4_ n5_ ⊢
  have BE := n1_
  have BO := n2_
  have BF := n3_
  have BG := n4_
  have HZ := n5_
  clear n1_ n2_ n3_ n4_ n5_
  clear y2 y3 y4 y5 z4 e6 o6 q6
  have y2 : wx.cell? ⟨g4, 2, none⟩ = some (.pointer none) := (blk_cell BF.out 2).trans rfl
  have y3 : wx.cell? ⟨g4, 3, none⟩ = some (.slice (some ⟨bW, 0, none⟩) (wsK k).length (wsK k).length) := (blk_cell BF.out 3).trans rfl
  have y4 : wx.cell? ⟨g4, 4, none⟩ = some (.pointer (some ⟨w.heap.size, 6, none⟩)) := (blk_cell BF.out 4).trans rfl
  have y5 : wx.cell? ⟨g4, 5, none⟩ = some (.bool false) := (blk_cell BF.out 5).trans rfl
  have z4 : wx.cell? ⟨g6, 4, none⟩ = some (.pointer (some ⟨w.heap.size + 1, 6, none⟩)) := (blk_cell BG.out 4).trans rfl
  have e6 : wx.cell? ⟨w.heap.size, 6, none⟩ = some (.int .i64 x.f6) := (blk_cell BE.out 6).trans rfl
  have o6 : wx.cell? ⟨w.heap.size + 1, 6, none⟩ = some (.int .i64 0) := (blk_cell BO.out 6).trans rfl
  have q6 : wx.frozen? ⟨w.heap.size + 1, 6, none⟩ = false := Lib.frozen_of_heap BO.out 6
  go_region
  clear y2 y3 y4 y5 z4 e6 o6 q6
  have n1_ : Aside0 (((wx.setCell ⟨w.heap.size + 1, 6, none⟩ (.int .i64 x.f6)).drew).heap[w.heap.size]? = some (.cells (evC x (.slice A x.f7.length cap)) 24 (0, 0))) := ⟨hp_setne wx _ _ _ 6 _ (by omega) BE.out⟩
  have n2_ : Aside0 (((wx.setCell ⟨w.heap.size + 1, 6, none⟩ (.int .i64 x.f6)).drew).heap[w.heap.size + 1]? = some (.cells (evC ⟨x.f0, x.f1, 0, 0, 0, 0, x.f6, []⟩ (.slice none 0 0)) 24 (0, 0))) := ⟨blk_put (w := wx) BO.out 6 _ rfl⟩
  have n3_ : Aside0 (((wx.setCell ⟨w.heap.size + 1, 6, none⟩ (.int .i64 x.f6)).drew).heap[g4]? = some (.cells #[.string (wordB k), .slice (some ad1) (foK k).length (foK k).length, .pointer none, .slice (some ⟨bW, 0, none⟩) (wsK k).length (wsK k).length, .pointer (some ⟨w.heap.size, 6, none⟩), .bool false] 48 (0, 0))) := ⟨hp_setne wx _ _ _ 6 _ NE4.out BF.out⟩
  have n4_ : Aside0 (((wx.setCell ⟨w.heap.size + 1, 6, none⟩ (.int .i64 x.f6)).drew).heap[g6]? = some (.cells #[.string (wordB k), .slice (some ad2) (foK k).length (foK k).length, .pointer none, .slice (some ⟨bX, 0, none⟩) (wsK k).length (wsK k).length, .pointer (some ⟨w.heap.size + 1, 6, none⟩), .bool false] 48 (0, 0))) := ⟨hp_setne wx _ _ _ 6 _ NE6.out BG.out⟩
  have n5_ : Aside0 (Below w.heap.size w ((wx.setCell ⟨w.heap.size + 1, 6, none⟩ (.int .i64 x.f6)).drew)) := ⟨below_drew (Below.setCell HZ.out (p := ⟨w.heap.size + 1, 6, none⟩) (Nat.le_succ _) _)⟩
  clear BE BO BF BG HZ
  generalize (wx.setCell ⟨w.heap.size + 1, 6, none⟩ (.int .i64 x.f6)).drew = wv at n1_ n2_ n3_ n4_ n5_ ⊢
  have BE := n1_
  have BO := n2_
  have BF := n3_
  have BG := n4_
  have HZ := n5_
  clear n1_ n2_ n3_ n4_ n5_
  have y5 : wv.cell? ⟨g4, 5, none⟩ = some (.bool false) := (blk_cell BF.out 5).trans rfl
  go_wp2_with (first
    | (refine wpList_load_row rfl 24 (.tmp 1) rfl w.heap.size rfl 24 (evC x (.slice A x.f7.length cap)) (0, 0) _ BE.out Tryd.underlying24 rfl (by kernel_rfl) ?_)
    | (refine wpList_load_row rfl 24 (.tmp 3) rfl (w.heap.size + 1) rfl 24 (evC ⟨x.f0, x.f1, 0, 0, 0, 0, x.f6, []⟩ (.slice none 0 0)) (0, 0) _ BO.out Tryd.underlying24 rfl (by kernel_rfl) ?_)
    | (go_at_call 24; refine (same_yes x (⟨x.f0, x.f1, 0, 0, 0, 0, x.f6, []⟩ : S24) A none cap 0 _ (Kd.C_below HR.out HZ.out) HCAP.out (Kd.C_nil _ _) (Nat.le_refl _) SM.out).mono ?_; rintro e wq ⟨rfl, hb⟩; have x7 : wq.cell? ⟨w.heap.size, 7, none⟩ = some (.slice A x.f7.length cap) := cell_keep BE.out hb rfl; have HB2 := Aside0.mk (below_then HZ.out HZ.out.size hb); clear HZ hb; have HZ := HB2; clear HB2)
    | (go_at_call 25; refine (rises_any x.f7 A cap _ (Kd.C_below HR.out HZ.out) HCAP.out _ RI.out).mono ?_; rintro e wr ⟨rfl, hd⟩; have HB2 := Aside0.mk (below_then HZ.out HZ.out.size hd.below); clear HZ hd; have HZ := HB2; clear HB2))
  go_ret
  exact ⟨rfl, HZ.out⟩
set_option maxRecDepth 100000 in
set_option maxHeartbeats 8000000 in
theorem check_c2_no (k : Nat) (h1 : 1 ≤ k) (h2 : k ≤ 11) (hc : clsK k = 2) (x : S24) (hk : x.f0 = k) (A : Option Addr) (cap : Nat) (w : World) (hr : Kd.C (Kd.int .i64) w A x.f7.length x.f7) (hcap : x.f7.length ≤ cap) (hn : ¬ x.f1 < 0) (hm : ¬ x.f6 < 1) (hw : ¬ ((wsK k).length : Int) ≤ x.f6) (hs : ¬ sameP x ⟨x.f0, x.f1, 0, 0, 0, 0, x.f6, []⟩) :
    Calls Tryd.prog 10 #[evV x A cap] w fun e w' => e = .returned (.int .i64 180) ∧ Below w.heap.size w w' := by
  have hu24 := Tryd.underlying24
  have hu48 := Tryd.underlying48
  have hu46 := Tryd.underlying46
  have HR := Aside0.mk hr
  have HCAP := Aside0.mk hcap
  have HCL := Aside0.mk hc
  have HKK := Aside0.mk hk
  have hfo := fo_c2 k hc
  have HFO := Aside0.mk hfo
  have hwl := ws_len2 k
  have T1 := Aside0.mk True.intro
  clear hr hcap hc hk hfo
  have dn : decide (x.f1 < 0) = false := decide_eq_false hn
  have d6 : decide (x.f6 < 1) = false := decide_eq_false hm
  have d7 : decide (((wsK k).length : Int) ≤ x.f6) = false := decide_eq_false hw
  have SM := Aside0.mk hs
  clear hn hm hw hs
  go_enter Tryd.func10, Tryd.ntmps10
  go_upto_region 6 with (first
    | (go_at_call 23; clear T1; refine (form_c2 k h1 h2 HCL.out _ x (.slice A x.f7.length cap) _ HKK.out (hp_lt _ _ _ _ (heap_alloc_new _ _))).mono ?_; rintro e w1 ⟨_, bW, rfl, ⟨AF, rfl, hF⟩, hW, hb⟩; have BE := Aside0.mk (blk_below (hp_lt _ _ _ _ (heap_alloc_new w (.cells (evC x (.slice A x.f7.length cap)) 24))) hb); have BO := Aside0.mk (blk_below (hp_new _ (.cells (evC ⟨x.f0, 0, 0, 0, 0, 0, 0, []⟩ (.slice none 0 0)) 24) (w.heap.size + 1) (by rw [size_alloc])) hb); have BW := Aside0.mk hW; have FF := Aside0.mk hF; have HZ := Aside0.mk ((bel2 w (.cells (evC x (.slice A x.f7.length cap)) 24) (.cells (evC ⟨x.f0, 0, 0, 0, 0, 0, 0, []⟩ (.slice none 0 0)) 24)).trans (hb.mono (by rw [size_alloc, size_alloc]; omega))); clear hW hF hb)
    | (go_at_call 23; refine (form_c2 k h1 h2 HCL.out _ (⟨x.f0, 0, 0, 0, 0, 0, 0, []⟩ : S24) (.slice none 0 0) _ HKK.out (hp_lt _ _ _ _ BO.out)).mono ?_; rintro e w2 ⟨_, bX, rfl, ⟨AG, rfl, hG⟩, hX, hb⟩; have BF := Aside0.mk (blk_below (heap_alloc_new w1 (.cells #[.string (wordB k), .slice AF (foK k).length (foK k).length, .pointer none, .slice (some ⟨bW, 0, none⟩) (wsK k).length (wsK k).length, .pointer (some ⟨w.heap.size, 6, none⟩), .bool false] 48)) hb); have hb1 := (bel1 w1 (.cells #[.string (wordB k), .slice AF (foK k).length (foK k).length, .pointer none, .slice (some ⟨bW, 0, none⟩) (wsK k).length (wsK k).length, .pointer (some ⟨w.heap.size, 6, none⟩), .bool false] 48)).trans (hb.mono (by rw [size_alloc]; omega)); have n1_ := Aside0.mk (blk_below BE.out hb1); have n2_ := Aside0.mk (blk_below BO.out hb1); have n3_ := Aside0.mk (blk_below BW.out hb1); have n4_ := Aside0.mk (fun j o hj => by obtain ⟨ad, e1, e2, e3⟩ := FF.out j o hj; exact ⟨ad, e1, e2, pw_cell_below hb1 e3⟩ : ∀ (j o : Nat), (foK k)[j]? = some o → ∃ ad, AF = some ad ∧ ad.block ≠ w.heap.size ∧ w2.cell? (ad.add j) = some (.pointer (some ⟨w.heap.size, o, none⟩))); have n5_ := Aside0.mk (HZ.out.trans (hb1.mono HZ.out.size)); clear BE BO BW FF HZ hb1; have BE := n1_; have BO := n2_; have BW := n3_; have FF := n4_; have HZ := n5_; have GG := Aside0.mk hG; clear n1_ n2_ n3_ n4_ n5_ hG hX hb))
  have BG := Aside0.mk (heap_alloc_new w2 (.cells #[.string (wordB k), .slice AG (foK k).length (foK k).length, .pointer none, .slice (some ⟨bX, 0, none⟩) (wsK k).length (wsK k).length, .pointer (some ⟨w.heap.size + 1, 6, none⟩), .bool false] 48))
  have hb2 := bel1 w2 (.cells #[.string (wordB k), .slice AG (foK k).length (foK k).length, .pointer none, .slice (some ⟨bX, 0, none⟩) (wsK k).length (wsK k).length, .pointer (some ⟨w.heap.size + 1, 6, none⟩), .bool false] 48)
  have n1_ := Aside0.mk (blk_below BE.out hb2)
  have n2_ := Aside0.mk (blk_below BO.out hb2)
  have n3_ := Aside0.mk (blk_below BW.out hb2)
  have n6_ := Aside0.mk (blk_below BF.out hb2)
  have n5_ := Aside0.mk (HZ.out.trans (hb2.mono HZ.out.size))
  obtain ⟨ad1, hA1, hn1, hc1⟩ := FF.out 0 1 (by rw [HFO.out]; rfl)
  obtain ⟨ad2, hA2, hn2, hc2⟩ := GG.out 0 1 (by rw [HFO.out]; rfl)
  have x1 := Aside0.mk (pw_cell_below hb2 hc1)
  have x2 := Aside0.mk (pw_cell_below hb2 hc2)
  have N1 := Aside0.mk hn1
  have N2 := Aside0.mk hn2
  clear hb2 hc1 hc2 hn1 hn2 FF GG BE BO BW BF HZ
  generalize w1.heap.size = g4 at n6_ ⊢
  generalize w2.heap.size = g6 at BG ⊢
  generalize w2.alloc (.cells #[.string (wordB k), .slice AG (foK k).length (foK k).length, .pointer none, .slice (some ⟨bX, 0, none⟩) (wsK k).length (wsK k).length, .pointer (some ⟨w.heap.size + 1, 6, none⟩), .bool false] 48) = wz at *
  have BE := n1_
  have BO := n2_
  have BW := n3_
  have BF := n6_
  have HZ := n5_
  clear n1_ n2_ n3_ n5_ n6_
  subst hA1 hA2
  have y1 : wz.cell? ⟨g4, 1, none⟩ = some (.slice (some ad1) (foK k).length (foK k).length) := (blk_cell BF.out 1).trans rfl
  have y2 : wz.cell? ⟨g4, 2, none⟩ = some (.pointer none) := (blk_cell BF.out 2).trans rfl
  have y3 : wz.cell? ⟨g4, 3, none⟩ = some (.slice (some ⟨bW, 0, none⟩) (wsK k).length (wsK k).length) := (blk_cell BF.out 3).trans rfl
  have y4 : wz.cell? ⟨g4, 4, none⟩ = some (.pointer (some ⟨w.heap.size, 6, none⟩)) := (blk_cell BF.out 4).trans rfl
  have y5 : wz.cell? ⟨g4, 5, none⟩ = some (.bool false) := (blk_cell BF.out 5).trans rfl
  have z1 : wz.cell? ⟨g6, 1, none⟩ = some (.slice (some ad2) (foK k).length (foK k).length) := (blk_cell BG.out 1).trans rfl
  have z4 : wz.cell? ⟨g6, 4, none⟩ = some (.pointer (some ⟨w.heap.size + 1, 6, none⟩)) := (blk_cell BG.out 4).trans rfl
  rw [HFO.out] at y1 z1 ⊢
  have p1 : wz.cell? ad1 = some (.pointer (some ⟨w.heap.size, 1, none⟩)) := x1.out
  have p2 : wz.cell? ad2 = some (.pointer (some ⟨w.heap.size + 1, 1, none⟩)) := x2.out
  have e1 : wz.cell? ⟨w.heap.size, 1, none⟩ = some (.int .i64 x.f1) := (blk_cell BE.out 1).trans rfl
  have e6 : wz.cell? ⟨w.heap.size, 6, none⟩ = some (.int .i64 x.f6) := (blk_cell BE.out 6).trans rfl
  have o1 : wz.cell? ⟨w.heap.size + 1, 1, none⟩ = some (.int .i64 0) := (blk_cell BO.out 1).trans rfl
  have q1 : wz.frozen? ⟨w.heap.size + 1, 1, none⟩ = false := Lib.frozen_of_heap BO.out 1
  go_wp2_with (fail)
  refine wp_loop_rounds 2 ?_
  rw [rounds_succ]
  go_wp2_with (fail)
  go_region
  have NE4 := Aside0.mk (show g4 ≠ w.heap.size + 1 by rintro rfl; have h1 := BF.out.symm.trans BO.out; injection h1 with h1; injection h1 with _ h2 _; cases h2)
  have NE6 := Aside0.mk (show g6 ≠ w.heap.size + 1 by rintro rfl; have h1 := BG.out.symm.trans BO.out; injection h1 with h1; injection h1 with _ h2 _; cases h2)
  go_wp2_with (fail)
  clear y1 y2 y3 y4 y5 z1 z4 p1 p2 e1 e6 o1 q1
  have n1_ : Aside0 (((wz.setCell ⟨w.heap.size + 1, 1, none⟩ (.int .i64 x.f1)).drew).heap[w.heap.size]? = some (.cells (evC x (.slice A x.f7.length cap)) 24 (0, 0))) := ⟨hp_setne wz _ _ _ 1 _ (by omega) BE.out⟩
  have n2_ : Aside0 (((wz.setCell ⟨w.heap.size + 1, 1, none⟩ (.int .i64 x.f1)).drew).heap[w.heap.size + 1]? = some (.cells (evC ⟨x.f0, x.f1, 0, 0, 0, 0, 0, []⟩ (.slice none 0 0)) 24 (0, 0))) := ⟨blk_put (w := wz) BO.out 1 _ rfl⟩
  have n3_ : Aside0 (((wz.setCell ⟨w.heap.size + 1, 1, none⟩ (.int .i64 x.f1)).drew).heap[g4]? = some (.cells #[.string (wordB k), .slice (some ad1) (foK k).length (foK k).length, .pointer none, .slice (some ⟨bW, 0, none⟩) (wsK k).length (wsK k).length, .pointer (some ⟨w.heap.size, 6, none⟩), .bool false] 48 (0, 0))) := ⟨hp_setne wz _ _ _ 1 _ NE4.out BF.out⟩
  have n4_ : Aside0 (((wz.setCell ⟨w.heap.size + 1, 1, none⟩ (.int .i64 x.f1)).drew).heap[g6]? = some (.cells #[.string (wordB k), .slice (some ad2) (foK k).length (foK k).length, .pointer none, .slice (some ⟨bX, 0, none⟩) (wsK k).length (wsK k).length, .pointer (some ⟨w.heap.size + 1, 6, none⟩), .bool false] 48 (0, 0))) := ⟨hp_setne wz _ _ _ 1 _ NE6.out BG.out⟩
  have n5_ : Aside0 (Below w.heap.size w ((wz.setCell ⟨w.heap.size + 1, 1, none⟩ (.int .i64 x.f1)).drew)) := ⟨below_drew (Below.setCell HZ.out (p := ⟨w.heap.size + 1, 1, none⟩) (Nat.le_succ _) _)⟩
  clear BE BO BF BG HZ
  generalize (wz.setCell ⟨w.heap.size + 1, 1, none⟩ (.int .i64 x.f1)).drew = wy at n1_ n2_ n3_ n4_ n5_ ⊢
  have BE := n1_
  have BO := n2_
  have BF := n3_
  have BG := n4_
  have HZ := n5_
  clear n1_ n2_ n3_ n4_ n5_
  have y2 : wy.cell? ⟨g4, 2, none⟩ = some (.pointer none) := (blk_cell BF.out 2).trans rfl
  have y3 : wy.cell? ⟨g4, 3, none⟩ = some (.slice (some ⟨bW, 0, none⟩) (wsK k).length (wsK k).length) := (blk_cell BF.out 3).trans rfl
  have y4 : wy.cell? ⟨g4, 4, none⟩ = some (.pointer (some ⟨w.heap.size, 6, none⟩)) := (blk_cell BF.out 4).trans rfl
  have y5 : wy.cell? ⟨g4, 5, none⟩ = some (.bool false) := (blk_cell BF.out 5).trans rfl
  have z4 : wy.cell? ⟨g6, 4, none⟩ = some (.pointer (some ⟨w.heap.size + 1, 6, none⟩)) := (blk_cell BG.out 4).trans rfl
  have e6 : wy.cell? ⟨w.heap.size, 6, none⟩ = some (.int .i64 x.f6) := (blk_cell BE.out 6).trans rfl
  have o6 : wy.cell? ⟨w.heap.size + 1, 6, none⟩ = some (.int .i64 0) := (blk_cell BO.out 6).trans rfl
  have q6 : wy.frozen? ⟨w.heap.size + 1, 6, none⟩ = false := Lib.frozen_of_heap BO.out 6
  rw [rounds_succ]
  go_wp2_with (fail)
  go_quiet (fail)
  go_wp2_with (fail)
  have n1_ : Aside0 ((wy.drewN nq).heap[w.heap.size]? = some (.cells (evC x (.slice A x.f7.length cap)) 24 (0, 0))) := ⟨BE.out⟩
  have n2_ : Aside0 ((wy.drewN nq).heap[w.heap.size + 1]? = some (.cells (evC ⟨x.f0, x.f1, 0, 0, 0, 0, 0, []⟩ (.slice none 0 0)) 24 (0, 0))) := ⟨BO.out⟩
  have n3_ : Aside0 ((wy.drewN nq).heap[g4]? = some (.cells #[.string (wordB k), .slice (some ad1) (foK k).length (foK k).length, .pointer none, .slice (some ⟨bW, 0, none⟩) (wsK k).length (wsK k).length, .pointer (some ⟨w.heap.size, 6, none⟩), .bool false] 48 (0, 0))) := ⟨BF.out⟩
  have n4_ : Aside0 ((wy.drewN nq).heap[g6]? = some (.cells #[.string (wordB k), .slice (some ad2) (foK k).length (foK k).length, .pointer none, .slice (some ⟨bX, 0, none⟩) (wsK k).length (wsK k).length, .pointer (some ⟨w.heap.size + 1, 6, none⟩), .bool false] 48 (0, 0))) := ⟨BG.out⟩
  have n5_ : Aside0 (Below w.heap.size w (wy.drewN nq)) := ⟨pw_below_drewN HZ.out _⟩
  clear BE BO BF BG HZ
  generalize wy.drewN nq = wx at n1_ n2_ n3_ n4_ n5_ ⊢
  have BE := n1_
  have BO := n2_
  have BF := n3_
  have BG := n4_
  have HZ := n5_
  clear n1_ n2_ n3_ n4_ n5_
  clear y2 y3 y4 y5 z4 e6 o6 q6
  have y2 : wx.cell? ⟨g4, 2, none⟩ = some (.pointer none) := (blk_cell BF.out 2).trans rfl
  have y3 : wx.cell? ⟨g4, 3, none⟩ = some (.slice (some ⟨bW, 0, none⟩) (wsK k).length (wsK k).length) := (blk_cell BF.out 3).trans rfl
  have y4 : wx.cell? ⟨g4, 4, none⟩ = some (.pointer (some ⟨w.heap.size, 6, none⟩)) := (blk_cell BF.out 4).trans rfl
  have y5 : wx.cell? ⟨g4, 5, none⟩ = some (.bool false) := (blk_cell BF.out 5).trans rfl
  have z4 : wx.cell? ⟨g6, 4, none⟩ = some (.pointer (some ⟨w.heap.size + 1, 6, none⟩)) := (blk_cell BG.out 4).trans rfl
  have e6 : wx.cell? ⟨w.heap.size, 6, none⟩ = some (.int .i64 x.f6) := (blk_cell BE.out 6).trans rfl
  have o6 : wx.cell? ⟨w.heap.size + 1, 6, none⟩ = some (.int .i64 0) := (blk_cell BO.out 6).trans rfl
  have q6 : wx.frozen? ⟨w.heap.size + 1, 6, none⟩ = false := Lib.frozen_of_heap BO.out 6
  go_region
  clear y2 y3 y4 y5 z4 e6 o6 q6
  have n1_ : Aside0 (((wx.setCell ⟨w.heap.size + 1, 6, none⟩ (.int .i64 x.f6)).drew).heap[w.heap.size]? = some (.cells (evC x (.slice A x.f7.length cap)) 24 (0, 0))) := ⟨hp_setne wx _ _ _ 6 _ (by omega) BE.out⟩
  have n2_ : Aside0 (((wx.setCell ⟨w.heap.size + 1, 6, none⟩ (.int .i64 x.f6)).drew).heap[w.heap.size + 1]? = some (.cells (evC ⟨x.f0, x.f1, 0, 0, 0, 0, x.f6, []⟩ (.slice none 0 0)) 24 (0, 0))) := ⟨blk_put (w := wx) BO.out 6 _ rfl⟩
  have n3_ : Aside0 (((wx.setCell ⟨w.heap.size + 1, 6, none⟩ (.int .i64 x.f6)).drew).heap[g4]? = some (.cells #[.string (wordB k), .slice (some ad1) (foK k).length (foK k).length, .pointer none, .slice (some ⟨bW, 0, none⟩) (wsK k).length (wsK k).length, .pointer (some ⟨w.heap.size, 6, none⟩), .bool false] 48 (0, 0))) := ⟨hp_setne wx _ _ _ 6 _ NE4.out BF.out⟩
  have n4_ : Aside0 (((wx.setCell ⟨w.heap.size + 1, 6, none⟩ (.int .i64 x.f6)).drew).heap[g6]? = some (.cells #[.string (wordB k), .slice (some ad2) (foK k).length (foK k).length, .pointer none, .slice (some ⟨bX, 0, none⟩) (wsK k).length (wsK k).length, .pointer (some ⟨w.heap.size + 1, 6, none⟩), .bool false] 48 (0, 0))) := ⟨hp_setne wx _ _ _ 6 _ NE6.out BG.out⟩
  have n5_ : Aside0 (Below w.heap.size w ((wx.setCell ⟨w.heap.size + 1, 6, none⟩ (.int .i64 x.f6)).drew)) := ⟨below_drew (Below.setCell HZ.out (p := ⟨w.heap.size + 1, 6, none⟩) (Nat.le_succ _) _)⟩
  clear BE BO BF BG HZ
  generalize (wx.setCell ⟨w.heap.size + 1, 6, none⟩ (.int .i64 x.f6)).drew = wv at n1_ n2_ n3_ n4_ n5_ ⊢
  have BE := n1_
  have BO := n2_
  have BF := n3_
  have BG := n4_
  have HZ := n5_
  clear n1_ n2_ n3_ n4_ n5_
  have y5 : wv.cell? ⟨g4, 5, none⟩ = some (.bool false) := (blk_cell BF.out 5).trans rfl
  go_wp2_with (first
    | (refine wpList_load_row rfl 24 (.tmp 1) rfl w.heap.size rfl 24 (evC x (.slice A x.f7.length cap)) (0, 0) _ BE.out Tryd.underlying24 rfl (by kernel_rfl) ?_)
    | (refine wpList_load_row rfl 24 (.tmp 3) rfl (w.heap.size + 1) rfl 24 (evC ⟨x.f0, x.f1, 0, 0, 0, 0, x.f6, []⟩ (.slice none 0 0)) (0, 0) _ BO.out Tryd.underlying24 rfl (by kernel_rfl) ?_)
    | (go_at_call 24; refine (same_no x (⟨x.f0, x.f1, 0, 0, 0, 0, x.f6, []⟩ : S24) A none cap 0 _ (Kd.C_below HR.out HZ.out) HCAP.out (Kd.C_nil _ _) (Nat.le_refl _) SM.out).mono ?_; rintro e wq ⟨rfl, hb⟩; have x7 : wq.cell? ⟨w.heap.size, 7, none⟩ = some (.slice A x.f7.length cap) := cell_keep BE.out hb rfl; have HB2 := Aside0.mk (below_then HZ.out HZ.out.size hb); clear HZ hb; have HZ := HB2; clear HB2)
    | (go_at_call 25; refine (rises_any x.f7 A cap _ (Kd.C_below HR.out HZ.out) HCAP.out _ RI.out).mono ?_; rintro e wr ⟨rfl, hd⟩; have HB2 := Aside0.mk (below_then HZ.out HZ.out.size hd.below); clear HZ hd; have HZ := HB2; clear HB2))
  go_ret
  exact ⟨rfl, HZ.out⟩
end Go.Proofs.YtiapfhlipoomaaaDoor.Given
end
section
namespace Go.Proofs.YtiapfhlipoomaaaDoor.Given
open Go.RowKit Go.Proofs.YtiapfhlipoomaaaDoorW.PrintWords Go.Proofs.YtiapfhlipoomaaaDoorW.PrintLast Go.Proofs.YtiapfhlipoomaaaDoorW.PrintMore Go.Proofs.YtiapfhlipoomaaaDoor.Print
set_option linter.unusedVariables false
set_option linter.unusedSimpArgs false
def checkOf (x : S24) : Int := if 1 ≤ x.f0 ∧ x.f0 ≤ 11 then checkK x.f0.toNat x else 180
def okX (x : S24) : Bool := decide (1 ≤ x.f0 ∧ x.f0 ≤ 11) && okK x.f0.toNat x
theorem checkOf_ok (x : S24) : checkOf x = if okX x = true then 0 else 180 := by
  unfold checkOf okX checkK
  by_cases h : 1 ≤ x.f0 ∧ x.f0 ≤ 11
  · rw [if_pos h, decide_eq_true h, Bool.true_and]
  · rw [if_neg h, decide_eq_false h, Bool.false_and, if_neg (by decide)]
theorem cls_of0 (k : Nat) : clsK k = 0 ∨ clsK k = 1 ∨ clsK k = 2 := by
  unfold clsK
  split <;> simp
set_option maxRecDepth 100000 in
set_option maxHeartbeats 2000000 in
theorem check_no (x : S24) (hk : x.f0 < 1 ∨ 11 < x.f0) (A : Option Addr) (cap : Nat) (w : World) :
    Calls Tryd.prog 10 #[evV x A cap] w fun e w' => e = .returned (.int .i64 180) ∧ Below w.heap.size w w' := by
  have hu24 := Tryd.underlying24
  have hu48 := Tryd.underlying48
  have T1 := Aside0.mk True.intro
  go_enter Tryd.func10, Tryd.ntmps10
  go_wp2_with (first
    | (go_at_call 23; clear T1; refine (form_no _ x.f0 _ hk ((blk_cell (hp_lt _ _ _ _ (heap_alloc_new w (.cells (evC x (.slice A x.f7.length cap)) 24))) 0).trans rfl)).mono ?_; rintro e w' ⟨rfl, rfl⟩)
    | (go_at_call 23; refine (form_no _ x.f0 _ hk ((blk_cell (t := 24) (cs := evC ⟨x.f0, 0, 0, 0, 0, 0, 0, []⟩ (.slice none 0 0)) (by repeat first | with_reducible exact hp_new _ _ _ (by simp only [size_alloc, heap_drew]; done) | with_reducible refine hp_lt _ _ _ _ ?_ | with_reducible refine hp_drew _ _ _ ?_) 0).trans rfl)).mono ?_; rintro e w' ⟨rfl, rfl⟩))
  go_ret
  exact ⟨rfl, by repeat first | with_reducible exact Below.refl _ _ | with_reducible refine below_alloc ?_ _ | with_reducible refine below_drew ?_⟩
theorem chk_any (x : S24) (A : Option Addr) (cap : Nat) (w : World) (hr : Kd.C (Kd.int .i64) w A x.f7.length x.f7) (hc : x.f7.length ≤ cap) :
    Calls Tryd.prog 10 #[evV x A cap] w fun e w' => e = .returned (.int .i64 (checkOf x)) ∧ Below w.heap.size w w' := by
  by_cases hk : 1 ≤ x.f0 ∧ x.f0 ≤ 11
  · obtain ⟨k, hkk⟩ : ∃ k : Nat, x.f0 = k := ⟨x.f0.toNat, by omega⟩
    have h1 : 1 ≤ k := by omega
    have h2 : k ≤ 11 := by omega
    have hco : checkOf x = checkK k x := by unfold checkOf; rw [if_pos hk, hkk, Int.toNat_natCast]
    rw [hco]
    rcases cls_of0 k with hcl | hcl | hcl
    · exact check_c0 k h1 h2 hcl x hkk A cap w hr hc
    · exact check_c1 k h1 h2 hcl x hkk A cap w hr hc
    · have hok := ok_c2 k hcl x
      by_cases hn : x.f1 < 0
      · rw [show checkK k x = 180 from if_neg (by rw [hok]; simp; omega)]
        exact check_c2_neg k h1 h2 hcl x hkk A cap w hr hc hn
      by_cases hm : x.f6 < 1
      · rw [show checkK k x = 180 from if_neg (by rw [hok]; simp; omega)]
        exact check_c2_lo k h1 h2 hcl x hkk A cap w hr hc hn hm
      by_cases hw : ((wsK k).length : Int) ≤ x.f6
      · rw [show checkK k x = 180 from if_neg (by rw [hok]; simp; omega)]
        exact check_c2_hi k h1 h2 hcl x hkk A cap w hr hc hn hm hw
      by_cases hs : sameP x ⟨x.f0, x.f1, 0, 0, 0, 0, x.f6, []⟩
      · rw [show checkK k x = 0 from if_pos (by rw [hok]; obtain ⟨_, _, s2, s3, s4, s5, _, s7⟩ := hs; simp only at s2 s3 s4 s5 s7; exact decide_eq_true ⟨by omega, by omega, by omega, s2, s3, s4, s5, s7⟩)]
        exact check_c2_yes k h1 h2 hcl x hkk A cap w hr hc hn hm hw hs
      · rw [show checkK k x = 180 from if_neg (by rw [hok]; intro h; obtain ⟨_, _, _, s2, s3, s4, s5, s7⟩ := of_decide_eq_true h; exact hs ⟨rfl, rfl, s2, s3, s4, s5, rfl, s7⟩)]
        exact check_c2_no k h1 h2 hcl x hkk A cap w hr hc hn hm hw hs
  · have hco : checkOf x = 180 := by unfold checkOf; rw [if_neg hk]
    rw [hco]
    exact check_no x (by omega) A cap w
end Go.Proofs.YtiapfhlipoomaaaDoor.Given
end
section
namespace Go.Proofs.YtiapfhlipoomaaaDoor.Given
open Go.RowKit Go.Proofs.YtiapfhlipoomaaaDoorW.PrintWords Go.Proofs.YtiapfhlipoomaaaDoorW.PrintLast Go.Proofs.YtiapfhlipoomaaaDoorW.PrintMore Go.Proofs.YtiapfhlipoomaaaDoor.Print
set_option linter.unusedVariables false
set_option linter.unusedSimpArgs false
def joinB (xs : List ByteArray) : ByteArray := ⟨(Lib.join (xs.map (·.data.toList)) [32]).toArray⟩
def lineB (xs : List ByteArray) : ByteArray := joinB xs ++ ⟨#[10]⟩
theorem joinB_size (xs : List ByteArray) : (joinB xs).size = (Lib.join (xs.map (·.data.toList)) [32]).length := by
  show (Lib.join (xs.map (·.data.toList)) [32]).toArray.size = _
  rw [List.size_toArray]
theorem lineB_size (xs : List ByteArray) : (lineB xs).size = (joinB xs).size + 1 := by
  rw [lineB, size_append]
  rfl
theorem join_len : ∀ (xs : List (List UInt8)), xs.length ≤ (Lib.join xs [32]).length + 1
  | [] => by simp
  | x :: r => by
    rw [Lib.join_cons]
    have : r.length ≤ (Lib.joinTail [32] r).length := by
      unfold Lib.joinTail
      induction r with
      | nil => simp
      | cons y r ih => simp only [List.map_cons, List.flatten_cons, List.length_append, List.length_cons, List.length_nil]; omega
    simp only [List.length_cons, List.length_append]
    omega
theorem R_blk {α : Type} {d : Kd α} {e base : Nat} {ok : Nat → Prop} {w : World} {v : Value} {xs : List α} (h : Kd.R d e w base ok v xs) (hne : xs ≠ []) : ∃ g c, v = .slice (some ⟨g, 0, none⟩) xs.length c ∧ g < w.heap.size := by
  obtain ⟨inner, ho⟩ := Kd.R_own h
  obtain ⟨A, c, hv, hl, hr⟩ := Kd.R_reads h
  have h2 := ho.2
  rcases h2 with ⟨h0, hn⟩ | ⟨g, cap, cur, hv', hB, hg, _⟩
  · rw [hv] at h0
    injection h0 with _ h1 _
    exact absurd (List.eq_nil_of_length_eq_zero h1) hne
  · exact ⟨g, cap, hv', blk_lt hg⟩
theorem join_call {base : Nat} {ok : Nat → Prop} {v : Value} (xs : List ByteArray) (w : World) (hv : Kd.R Kd.string 9 w base ok v xs) (hne : xs ≠ []) (hs : (joinB xs).size < 140737488355328) :
    Calls Tryd.prog 45 #[v, .string ⟨#[32]⟩] w fun e w' => e = .returned (.string (joinB xs)) ∧ Below w.heap.size w w' := by
  obtain ⟨g, c, rfl, hg⟩ := R_blk hv hne
  obtain ⟨_, hl, hr⟩ := Kd.R_reads' hv
  have hj := joinB_size xs
  have hlen := join_len (xs.map (·.data.toList))
  rw [List.length_map] at hlen
  refine (Tryd.strings_Join g 0 c xs ⟨#[32]⟩ w ?_ hg (by omega) hl (by show (Lib.join (xs.map (·.data.toList)) [32]).length ≤ _; omega)).mono ?_
  · intro j x hx
    have hj := (List.getElem?_eq_some_iff.1 hx).1
    obtain ⟨ad, e, hc⟩ := Kd.at_string hr (j : Int) (by omega) (by omega)
    injection e with e
    subst e
    rw [Int.toNat_natCast] at hc
    have e2 : (⟨g, 0, none⟩ : Addr).add j = ⟨g, 0 + j, none⟩ := by simp [Addr.add]; try exact Eq.symm
    rw [e2] at hc
    rw [hc]
    simp [rdOf, hx]
  · rintro e w' ⟨rfl, hb⟩
    exact ⟨rfl, hb⟩
set_option maxRecDepth 100000 in
set_option maxHeartbeats 2000000 in
theorem put_any {base : Nat} {ok : Nat → Prop} {v : Value} (b : Nat) (acc : ByteArray) (xs : List ByteArray) (w : World) (h : Lib.IsBuilder 61 5 b b (Lib.strCells acc) w) (hv : Kd.R Kd.string 9 w base ok v xs) (hne : xs ≠ []) (hlen : acc.size + (lineB xs).size ≤ 140737488355328) (hbw : b ≤ w.heap.size) :
    Calls Tryd.prog 33 #[.pointer (some ⟨b, 0, none⟩), v] w fun e w' => e = .returned (.tuple #[]) ∧ Lib.IsBuilder 61 5 b b (Lib.strCells (acc ++ lineB xs)) w' ∧ Below b w w' := by
  have H := Aside0.mk h
  have HV := Aside0.mk hv
  have hls := lineB_size xs
  have HS : Aside0 ((joinB xs).size < 140737488355328) := ⟨by omega⟩
  have HL : Aside0 (acc.size + (joinB xs).size ≤ 140737488355328) := ⟨by omega⟩
  have HL2 : Aside0 ((acc ++ joinB xs).size + 1 ≤ 140737488355328) := ⟨by rw [size_append]; omega⟩
  have HBW := Aside0.mk hbw
  clear h hv hlen hls hbw
  go_enter Tryd.func33, Tryd.ntmps33
  go_wp2_with (first
    | (go_at_call 45; refine (join_call xs _ HV.out hne HS.out).mono ?_; rintro e w1 ⟨rfl, hb⟩; have H1 := Aside0.mk (builder_below H.out hb); have B1 := Aside0.mk (show Below b w w1 from ⟨hb.os, hb.tape, hb.output, hb.size, fun k hk => hb.block k (by have := HBW.out; omega)⟩); clear hb)
    | (go_at_call 44; refine (write_on b acc (joinB xs) _ H1.out HL.out).mono ?_; rintro e w2 ⟨rfl, h2, hb, _⟩; have H2 := Aside0.mk h2; have B2 := Aside0.mk (B1.out.trans hb); clear h2 hb)
    | (go_at_call 46; refine (byte_any b b _ 10 _ H2.out (by rw [Lib.strCells_length]; exact HL2.out) (by have := HBW.out; have := B2.out.size; omega)).mono ?_; rintro e w3 ⟨rfl, h3, hb, _⟩; have H3 := Aside0.mk h3; have B3 := Aside0.mk (B2.out.trans hb); clear h3 hb))
  go_end0
  refine ⟨rfl, .inr ?_, B3.out⟩
  have := H3.out
  rw [strCells_append, lineB, strCells_append, ← List.append_assoc, ← strCells_append]
  exact this
end Go.Proofs.YtiapfhlipoomaaaDoor.Given
end
section
namespace Go.Proofs.YtiapfhlipoomaaaDoor.Given
open Go.RowKit Go.Proofs.YtiapfhlipoomaaaDoorW.PrintWords Go.Proofs.YtiapfhlipoomaaaDoorW.PrintLast Go.Proofs.YtiapfhlipoomaaaDoorW.PrintMore Go.Proofs.YtiapfhlipoomaaaDoor.Print
set_option linter.unusedVariables false
set_option linter.unusedSimpArgs false
def wordsF (k : Nat) (x : S24) : List ByteArray := wordB k :: (foK k).map (fun o => itoaB (getK x o))
def wordsM (k : Nat) (x : S24) : List ByteArray := if clsK k = 1 then [itoaB x.f6] else if clsK k = 2 then [(wsK k).getD x.f6.toNat ⟨#[]⟩] else []
def wordsK (k : Nat) (x : S24) : List ByteArray := wordsF k x ++ wordsM k x ++ x.f7.map itoaB
def wordsX (x : S24) : List ByteArray := wordsK x.f0.toNat x
def textOf (l : List S24) : ByteArray := l.foldl (fun acc x => acc ++ lineB (wordsX x)) ⟨#[]⟩
def printOf (l : List S24) : ByteArray × Int := if l.all okX = true then (textOf l, 0) else (⟨#[]⟩, 180)
theorem textOf_snoc (l : List S24) (x : S24) : textOf (l ++ [x]) = textOf l ++ lineB (wordsX x) := by simp [textOf]
theorem textOf_size (a b : List S24) : (textOf a).size ≤ (textOf (a ++ b)).size := by
  have key : ∀ (b : List S24) (s : ByteArray), s.size ≤ (b.foldl (fun acc x => acc ++ lineB (wordsX x)) s).size := by
    intro b
    induction b with
    | nil => intro s; exact Nat.le_refl _
    | cons x b ih =>
      intro s
      refine Nat.le_trans ?_ (ih _)
      rw [size_append]
      omega
  have : textOf (a ++ b) = b.foldl (fun acc x => acc ++ lineB (wordsX x)) (textOf a) := by simp [textOf]
  rw [this]
  exact key b _
theorem words_len (xs : List ByteArray) : xs.length ≤ (lineB xs).size := by
  have h := join_len (xs.map (·.data.toList))
  rw [List.length_map] at h
  rw [lineB_size, joinB_size]
  exact h
def rngX (x : S24) : Prop := (∀ o, o ≤ 6 → -9223372036854775808 ≤ getK x o ∧ getK x o ≤ 9223372036854775807) ∧ ∀ n ∈ x.f7, -9223372036854775808 ≤ n ∧ n ≤ 9223372036854775807
end Go.Proofs.YtiapfhlipoomaaaDoor.Given
end
section
namespace Go.Proofs.YtiapfhlipoomaaaDoor.Given
open Go.RowKit Go.Proofs.YtiapfhlipoomaaaDoorW.PrintWords Go.Proofs.YtiapfhlipoomaaaDoorW.PrintLast Go.Proofs.YtiapfhlipoomaaaDoorW.PrintMore Go.Proofs.YtiapfhlipoomaaaDoor.Print
set_option linter.unusedVariables false
set_option linter.unusedSimpArgs false
theorem take_next {α β : Type} (f : α → β) (l : List α) (k : Nat) (x : α) (h : l[k]? = some x) : (l.take (k + 1)).map f = (l.take k).map f ++ [f x] := by
  rw [List.take_add_one, h]
  simp
theorem ret_print {a b : ByteArray × Int} (h : a = b) : Ending.returned (.tuple #[.string a.1, .int .i64 a.2]) = .returned (.tuple #[.string b.1, .int .i64 b.2]) := by rw [h]
theorem print_bad (l : List S24) (k : Nat) (x : S24) (hx : l[k]? = some x) (h : okX x = false) : printOf l = (⟨#[]⟩, 180) := by
  unfold printOf
  rw [if_neg]
  intro ha
  have := List.all_eq_true.1 ha x (List.mem_of_getElem? hx)
  rw [h] at this
  cases this
theorem ws_in (k : Nat) (x : S24) (hc : clsK k = 2) (hok : okX x = true) (hk : x.f0 = k) : 0 ≤ x.f6 ∧ x.f6 < (wsK k).length := by
  unfold okX at hok
  rw [Bool.and_eq_true] at hok
  have h := hok.2
  rw [hk, Int.toNat_natCast] at h
  match k, hc, h with
  | 6, _, h => simp [okK, wsK] at h ⊢; omega
  | 11, _, h => simp [okK, wsK] at h ⊢; omega
theorem num_at {w : World} {A : Option Addr} {n : Nat} {ns : List Int} (h : Kd.C (Kd.int .i64) w A n ns) (j : Nat) (x : Int) (hx : ns[j]? = some x) : ∃ ad, A = some ad ∧ w.cell? (ad.add j) = some (.int .i64 x) := by
  have hl := (List.getElem?_eq_some_iff.1 hx).1
  obtain ⟨ad, e, hc⟩ := Kd.at_int h (j : Int) (by omega) (by have := Kd.C_len h; omega)
  rw [Int.toNat_natCast] at hc
  refine ⟨ad, e, ?_⟩
  rw [hc]
  simp [rd, hx]
theorem ok_kind (x : S24) (h : okX x = true) : ∃ k : Nat, 1 ≤ k ∧ k ≤ 11 ∧ x.f0 = k := by
  unfold okX at h
  rw [Bool.and_eq_true, decide_eq_true_eq] at h
  exact ⟨x.f0.toNat, by omega, by omega, by omega⟩
theorem cls_of (k : Nat) : clsK k = 0 ∨ clsK k = 1 ∨ clsK k = 2 := by
  unfold clsK
  split <;> simp
theorem ev_at {w : World} {A : Option Addr} {l : List S24} (h : Kd.C k24 w A l.length l) (j : Nat) (x : S24) (hx : l[j]? = some x) :
    ∃ ad A7 c7, A = some ad ∧ x.f7.length ≤ c7 ∧ Kd.C (Kd.int .i64) w A7 x.f7.length x.f7 ∧ ∀ i v, (evC x (.slice A7 x.f7.length c7))[i]? = some v → w.cell? (ad.add (j * 8 + i)) = some v := by
  have hl := (List.getElem?_eq_some_iff.1 hx).1
  obtain ⟨ad, c, e, _, hK, hc⟩ := Kd.C_get h z24 (j : Int) (by omega) (by omega)
  rw [Int.toNat_natCast] at hK hc
  have hg : l.getD j z24 = x := by simp [hx]
  rw [hg] at hK
  obtain ⟨A7, c7, rfl, l7, g7⟩ := k24_open hK
  exact ⟨ad, A7, c7, e, l7, g7, fun i v hv => hc i v (by rw [← hv]; simp [evC])⟩
set_option maxRecDepth 100000 in
set_option maxHeartbeats 16000000 in
theorem print_any (A : Option Addr) (cp : Nat) (l : List S24) (w : World) (hr : Kd.C k24 w A l.length l) (hL : LW w) (hrng : ∀ x ∈ l, rngX x) (hsz : (textOf l).size ≤ 1099511627776) :
    Calls Tryd.prog 14 #[.slice A l.length cp] w fun e w' => e = .returned (.tuple #[.string (printOf l).1, .int .i64 (printOf l).2]) ∧ Below w.heap.size w w' := by
  have hu24 := Tryd.underlying24
  have hu48 := Tryd.underlying48
  have hu61 := Tryd.underlying61
  have hm := hr.2.1
  have HR := Aside0.mk hr
  have HL := Aside0.mk hL
  have HRG0 := Aside0.mk hrng
  have HS := Aside0.mk hsz
  clear hr hL hrng hsz
  go_enter Tryd.func14, Tryd.ntmps14
  go_wp2
  go_loopw [17] (fun i wr => ∃ j : Nat, i = .int .i64 j ∧ j ≤ l.length ∧ Aside0 (Lib.IsBuilder 61 5 w.heap.size w.heap.size (Lib.strCells (textOf (l.take j))) wr) ∧ Aside0 (Below w.heap.size w wr) ∧ Aside0 (∀ x ∈ l.take j, okX x = true)) (fun i _ => l.length - (intOf i).toNat)
  case atStart => exact ⟨0, rfl, by omega, ⟨show Lib.IsBuilder 61 5 _ _ [] _ from Lib.fresh_isBuilder 61 5 w⟩, ⟨bel1 w _⟩, ⟨fun x h => by simp at h⟩⟩
  case round =>
    obtain ⟨j, rfl, hj, HBL, HB, HAL⟩ := hrel
    obtain ⟨wo, rfl⟩ : ∃ wo : World, wo = wr := ⟨_, rfl⟩
    by_cases hlt : j < l.length
    · obtain ⟨x, hx⟩ : ∃ x, l[j]? = some x := ⟨_, List.getElem?_eq_getElem hlt⟩
      obtain ⟨ad, A7, c7, rfl, h7, hC7, hrow⟩ := ev_at HR.out j x hx
      have HC7 := Aside0.mk hC7
      have H7 := Aside0.mk h7
      have HRX := Aside0.mk (HRG0.out x (List.mem_of_getElem? hx))
      have q0 : wo.cell? (ad.add (j * 8)) = some (.int .i64 x.f0) := pw_cell_below HB.out (hrow 0 _ rfl)
      have q1 : wo.cell? ⟨(ad.add (j * 8)).block, (ad.add (j * 8)).off + 1, none⟩ = some (.int .i64 x.f1) := by rw [← add_field _ _ 1 (by omega)]; exact pw_cell_below HB.out (hrow 1 _ rfl)
      have q2 : wo.cell? ⟨(ad.add (j * 8)).block, (ad.add (j * 8)).off + 2, none⟩ = some (.int .i64 x.f2) := by rw [← add_field _ _ 2 (by omega)]; exact pw_cell_below HB.out (hrow 2 _ rfl)
      have q3 : wo.cell? ⟨(ad.add (j * 8)).block, (ad.add (j * 8)).off + 3, none⟩ = some (.int .i64 x.f3) := by rw [← add_field _ _ 3 (by omega)]; exact pw_cell_below HB.out (hrow 3 _ rfl)
      have q4 : wo.cell? ⟨(ad.add (j * 8)).block, (ad.add (j * 8)).off + 4, none⟩ = some (.int .i64 x.f4) := by rw [← add_field _ _ 4 (by omega)]; exact pw_cell_below HB.out (hrow 4 _ rfl)
      have q5 : wo.cell? ⟨(ad.add (j * 8)).block, (ad.add (j * 8)).off + 5, none⟩ = some (.int .i64 x.f5) := by rw [← add_field _ _ 5 (by omega)]; exact pw_cell_below HB.out (hrow 5 _ rfl)
      have q6 : wo.cell? ⟨(ad.add (j * 8)).block, (ad.add (j * 8)).off + 6, none⟩ = some (.int .i64 x.f6) := by rw [← add_field _ _ 6 (by omega)]; exact pw_cell_below HB.out (hrow 6 _ rfl)
      have q7 : wo.cell? ⟨(ad.add (j * 8)).block, (ad.add (j * 8)).off + 7, none⟩ = some (.slice A7 x.f7.length c7) := by rw [← add_field _ _ 7 (by omega)]; exact pw_cell_below HB.out (hrow 7 _ rfl)
      clear hrow h7 hC7
      cases hok : okX x with
      | false =>
        have HCK : Aside0 (checkOf x = 180) := ⟨by rw [checkOf_ok, hok]; rfl⟩
        have HPR := Aside0.mk (print_bad l j x hx hok)
        clear hok hx
        go_wp2_with (go_at_call 10; refine (chk_any x A7 c7 _ (Kd.C_below HC7.out (HB.out.trans ((below_alloc (Below.refl _ wo) _).mono HB.out.size))) H7.out).mono ?_; rw [HCK.out]; rintro e w1 ⟨rfl, hb⟩; have HE := Aside0.mk (HB.out.trans (((below_alloc (Below.refl _ wo) (.cells (evC x (.slice A7 x.f7.length c7)) 24)).trans (hb.mono (by rw [size_alloc]; exact Nat.le_succ _))).mono HB.out.size)); clear hb)
        go_ret2
        exact ⟨ret_print (a := (⟨#[]⟩, 180)) HPR.out.symm, HE.out⟩
      | true =>
        have HCK : Aside0 (checkOf x = 0) := ⟨by rw [checkOf_ok, hok]; rfl⟩
        have HTX : Aside0 (textOf (l.take (j + 1)) = textOf (l.take j) ++ lineB (wordsX x)) := ⟨by rw [List.take_add_one, hx]; exact textOf_snoc _ _⟩
        have HSZ : Aside0 ((textOf (l.take j)).size + (lineB (wordsX x)).size ≤ 140737488355328) := ⟨by
          have h1 := textOf_size (l.take (j + 1)) (l.drop (j + 1))
          rw [List.take_append_drop, HTX.out, size_append] at h1
          have := HS.out
          omega⟩
        have HWL0 : Aside0 ((wordsX x).length ≤ 1099511627776) := ⟨by
          have h1 := textOf_size (l.take (j + 1)) (l.drop (j + 1))
          rw [List.take_append_drop, HTX.out, size_append] at h1
          have := HS.out
          have := words_len (wordsX x)
          omega⟩
        have HALL : Aside0 (∀ y ∈ l.take (j + 1), okX y = true) := ⟨fun y hy => by
          rw [List.take_add_one, hx] at hy
          simp only [Option.toList_some, List.mem_append, List.mem_singleton] at hy
          rcases hy with hy | rfl
          · exact HAL.out y hy
          · exact hok⟩
        have HOK := Aside0.mk hok
        obtain ⟨k, hk1, hk2, hkk⟩ := ok_kind x hok
        have HK1 := Aside0.mk hk1
        have HK2 := Aside0.mk hk2
        have HKK := Aside0.mk hkk
        have HKN : Aside0 (x.f0.toNat = k) := ⟨by rw [hkk]; exact Int.toNat_natCast k⟩
        have HWL : Aside0 ((wordsK k x).length ≤ 1099511627776) := ⟨by have := HWL0.out; unfold wordsX at this; rwa [HKN.out] at this⟩
        clear hx hok hk1 hk2 hkk HWL0
        rcases cls_of k with hcl | hcl | hcl
        · have HCL := Aside0.mk hcl
          clear hcl
          go_upto_region 9 with (first | (go_at_call 10; refine (chk_any x A7 c7 _ (Kd.C_below HC7.out (HB.out.trans ((below_alloc (Below.refl _ wo) _).mono HB.out.size))) H7.out).mono ?_; rw [HCK.out]; rintro e w1 ⟨rfl, hb⟩; have BE := Aside0.mk (blk_below (heap_alloc_new wo (.cells (evC x (.slice A7 x.f7.length c7)) 24)) hb); have HE := Aside0.mk ((below_alloc (Below.refl _ wo) (.cells (evC x (.slice A7 x.f7.length c7)) 24)).trans (hb.mono (by rw [size_alloc]; exact Nat.le_succ _))); clear hb) | (go_at_call 23; refine (form_c0 k HK1.out HK2.out HCL.out wo.heap.size x (.slice A7 x.f7.length c7) _ HKK.out BE.out).mono ?_; rintro e w2 ⟨_, rfl, ⟨AF, rfl, hF⟩, hb⟩; have FF := Aside0.mk hF; have n1_ := Aside0.mk (blk_below BE.out hb); have n2_ := Aside0.mk (HE.out.trans (hb.mono HE.out.size)); clear BE HE; have BE := n1_; have HE := n2_; clear n1_ n2_ hF hb))
          have BF := Aside0.mk (heap_alloc_new w2 (.cells #[.string (wordB k), .slice AF (foK k).length (foK k).length, .pointer none, .slice none 0 0, .pointer none, .bool (liK k)] 48))
          have n1_ := Aside0.mk (blk_below BE.out (bel1 w2 (.cells #[.string (wordB k), .slice AF (foK k).length (foK k).length, .pointer none, .slice none 0 0, .pointer none, .bool (liK k)] 48)))
          have HZ0 := Aside0.mk (HE.out.trans ((bel1 w2 (.cells #[.string (wordB k), .slice AF (foK k).length (foK k).length, .pointer none, .slice none 0 0, .pointer none, .bool (liK k)] 48)).mono HE.out.size))
          have n2_ : Aside0 (∀ (j o : Nat), (foK k)[j]? = some o → ∃ ad, AF = some ad ∧ (w2.alloc (.cells #[.string (wordB k), .slice AF (foK k).length (foK k).length, .pointer none, .slice none 0 0, .pointer none, .bool (liK k)] 48)).cell? (ad.add j) = some (.pointer (some ⟨wo.heap.size, o, none⟩))) := ⟨fun j o hj => by obtain ⟨ad, h1, _, h2⟩ := FF.out j o hj; exact ⟨ad, h1, pw_cell_below (bel1 w2 _) h2⟩⟩
          clear FF BE
          generalize w2.heap.size = g8 at BF ⊢
          generalize w2.alloc (.cells #[.string (wordB k), .slice AF (foK k).length (foK k).length, .pointer none, .slice none 0 0, .pointer none, .bool (liK k)] 48) = wz at *
          have HZ := Aside0.mk (HB.out.trans (HZ0.out.mono HB.out.size))
          have BE := n1_
          have FF := n2_
          clear n1_ n2_ HE
          have y0 : wz.cell? ⟨g8, 0, none⟩ = some (.string (wordB k)) := (blk_cell BF.out 0).trans rfl
          go_wp2_with (first | ((with_reducible refine gate_dst (N := 32) rfl ?_); refine Kd.R_lit Kd.string (w0 := wz) wz.heap.size 9 ?hg (N := 32) ?hd (xs := [wordB k]) (inner := [.string (wordB k)]) (ok := fun _ => True) (okp := fun _ => True) ?hr ?hp (fun _ hk => hk) trivial ?hb ?hs (by simp) ?_; (case hd => rfl); (case hg => rfl); (case hr => first | (go_simp; done) | (go_simp; rfl)); (case hp => exact (Reps.one (show Kd.M Kd.string _ _ _ (wordB k) [.string (wordB k)] from rfl) (Reps.none _ _))); (case hb => exact Below.refl _ _); (case hs => exact Nat.le_refl _); intro v0 w3 ho hb hg_ hat_; clear hg_ hat_; have HO := Aside0.mk ho; have HB1 := Aside0.mk hb; clear ho hb; have y1 : w3.cell? ⟨g8, 1, none⟩ = some (.slice AF (foK k).length (foK k).length) := cell_keep BF.out HB1.out rfl))
          clear y0 y1
          go_loopw [10, 36] (fun v10 i wr => ∃ a : Nat, i = .int .i64 a ∧ a ≤ (foK k).length ∧ Aside0 (Kd.R Kd.string 9 wr wz.heap.size (fun _ => True) v10 (wordB k :: ((foK k).take a).map (fun o => itoaB (getK x o)))) ∧ Aside0 (Below wz.heap.size wz wr)) (fun _ i _ => (foK k).length - (intOf i).toNat)
          case atStart => exact ⟨0, rfl, by omega, HO, HB1⟩
          case round =>
            clear HO HB1
            obtain ⟨a, rfl, ha, HO, HB1⟩ := hrel
            have hfl := fo_len k
            by_cases hlt : a < (foK k).length
            · obtain ⟨o, ho⟩ : ∃ o, (foK k)[a]? = some o := ⟨_, List.getElem?_eq_getElem hlt⟩
              obtain ⟨ad1, rfl, hc1⟩ := FF.out a o ho
              have ho6 := fo_le k o (List.mem_of_getElem? ho)
              have x1 : wr.cell? (ad1.add a) = some (.pointer (some ⟨wo.heap.size, o, none⟩)) := pw_cell_below HB1.out hc1
              obtain ⟨n, hn⟩ : ∃ n, n = getK x o := ⟨_, rfl⟩
              have x2 : wr.cell? ⟨wo.heap.size, o, none⟩ = some (.int .i64 n) := cell_keep BE.out HB1.out (by rw [hn]; exact ev_get x _ o ho6.1 ho6.2)
              have HRG := Aside0.mk (hn ▸ HRX.out.1 o ho6.2)
              have HT2 : Aside0 (wordB k :: ((foK k).take (a + 1)).map (fun o => itoaB (getK x o)) = (wordB k :: ((foK k).take a).map (fun o => itoaB (getK x o))) ++ [itoaB n]) := ⟨by rw [take_next _ _ a o ho, hn]; rfl⟩
              have HTL : Aside0 (((wordB k :: ((foK k).take a).map (fun o => itoaB (getK x o))).length + 1) * 16 ≤ 140737488355328) := ⟨by rw [List.length_cons, List.length_map, List.length_take]; omega⟩
              clear hc1 ho ho6 hn
              go_wp2_with (first
                | (go_at_call 32; refine (itoa_any (n) HRG.out _ (HL.out.below (HZ.out.trans (HB1.out.mono HZ.out.size)))).mono ?_; rintro e w3 ⟨rfl, hb⟩; have n1_ := Aside0.mk (Kd.R_below HO.out hb); have n3_ := Aside0.mk (below_then HB1.out HB1.out.size hb); clear HO HB1 hb; have HO := n1_; have HB1 := n3_; clear n1_ n3_)
                | ((with_reducible refine gate_builtin (b := .append) (xs := #[.tmp 40, .tmp 45]) rfl ?_); at_builtin; refine Kd.R_append Kd.string (w0 := wz) wz.heap.size rfl (.tmp 40) (.tmp 45) 46 9 (.string ⟨#[]⟩) 16 rfl Tryd.underlying46 info9 rfl (by decide) (by omega) u10 (wordB k :: ((foK k).take a).map (fun o => itoaB (getK x o))) (itoaB n) [.string (itoaB n)] (fun _ => True) (fun _ => False) rfl rfl ?aP (fun _ hk => hk.elim) ?aF ?aO ?aB ?aS ?aL ?_; (case aP => exact rfl); (case aB => exact HB1.out); (case aF => exact (fun _ _ => trivial)); (case aO => exact HO.out); (case aS => exact HB1.out.size); (case aL => exact HTL.out); intro v7 w7 ho hb hg_ hat_; clear hg_ hat_; have n1_ : Aside0 (Kd.R Kd.string 9 w7 wz.heap.size (fun _ => True) v7 (wordB k :: ((foK k).take a).map (fun o => itoaB (getK x o)) ++ [itoaB n])) := ⟨ho⟩; have n3_ := Aside0.mk hb; clear HO HB1 ho hb; have HO := n1_; have HB1 := n3_; clear n1_ n3_))
              go_roundw
              case rel => exact ⟨a + 1, by go_num, by omega, by rw [HT2.out]; exact HO, HB1⟩
              case measure => simp [intOf]; omega
            · obtain rfl : a = (foK k).length := by omega
              rw [List.take_length] at HO
              clear hlt ha
              have HO0 : Aside0 (Kd.R Kd.string 9 wr wz.heap.size (fun _ => True) u10 (wordsF k x)) := HO
              clear HO
              have HO := HO0
              clear HO0
              have z2 : wr.cell? ⟨g8, 2, none⟩ = some (.pointer none) := cell_keep BF.out HB1.out rfl
              have z3 : wr.cell? ⟨g8, 3, none⟩ = some (.slice none 0 0) := cell_keep BF.out HB1.out rfl
              have hu46 := Tryd.underlying46
              have e7 : wr.cell? ⟨wo.heap.size, 7, none⟩ = some (.slice A7 x.f7.length c7) := cell_keep BE.out HB1.out rfl
              have HM : Aside0 (wordsM k x = []) := ⟨by unfold wordsM; rw [HCL.out]; rfl⟩
              have HO0 : Aside0 (Kd.R Kd.string 9 wr wz.heap.size (fun _ => True) u10 (wordsF k x ++ wordsM k x)) := ⟨by rw [HM.out, List.append_nil]; exact HO.out⟩
              clear HO
              have HO := HO0
              clear HO0
              go_wp2_with (fail)
              go_loopw [10, 78] (fun v10 i wr => ∃ a : Nat, i = .int .i64 a ∧ a ≤ x.f7.length ∧ Aside0 (Kd.R Kd.string 9 wr wz.heap.size (fun _ => True) v10 (wordsF k x ++ wordsM k x ++ (x.f7.take a).map itoaB)) ∧ Aside0 (Below wz.heap.size wz wr)) (fun _ i _ => x.f7.length - (intOf i).toNat)
              case atStart => exact ⟨0, rfl, by omega, ⟨by simpa using HO.out⟩, HB1⟩
              case round =>
                clear HO HB1
                obtain ⟨a, rfl, ha, HO, HB1⟩ := hrel
                have h7m := HC7.out.2.1
                by_cases hlt : a < x.f7.length
                · obtain ⟨n, hn⟩ : ∃ n, x.f7[a]? = some n := ⟨_, List.getElem?_eq_getElem hlt⟩
                  obtain ⟨ad7, rfl, hc1⟩ := num_at (Kd.C_below HC7.out HZ.out) a n hn
                  have x1 : wr.cell? (ad7.add a) = some (.int .i64 n) := pw_cell_below HB1.out hc1
                  have HRG := Aside0.mk (HRX.out.2 n (List.mem_of_getElem? hn))
                  have HT2 : Aside0 (wordsF k x ++ wordsM k x ++ (x.f7.take (a + 1)).map itoaB = (wordsF k x ++ wordsM k x ++ (x.f7.take a).map itoaB) ++ [itoaB n]) := ⟨by rw [take_next _ _ a n hn, List.append_assoc (wordsF k x ++ wordsM k x)]⟩
                  have HTL : Aside0 (((wordsF k x ++ wordsM k x ++ (x.f7.take a).map itoaB).length + 1) * 16 ≤ 140737488355328) := ⟨by have h1 := HWL.out; rw [wordsK, List.length_append, List.length_map] at h1; rw [List.length_append, List.length_map, List.length_take]; omega⟩
                  clear hc1 hn
                  go_wp2_with (first
                    | (go_at_call 32; refine (itoa_any (n) HRG.out _ (HL.out.below (HZ.out.trans (HB1.out.mono HZ.out.size)))).mono ?_; rintro e w3 ⟨rfl, hb⟩; have n1_ := Aside0.mk (Kd.R_below HO.out hb); have n3_ := Aside0.mk (below_then HB1.out HB1.out.size hb); clear HO HB1 hb; have HO := n1_; have HB1 := n3_; clear n1_ n3_)
                    | ((with_reducible refine gate_builtin (b := .append) (xs := #[.tmp 82, .tmp 85]) rfl ?_); at_builtin; refine Kd.R_append Kd.string (w0 := wz) wz.heap.size rfl (.tmp 82) (.tmp 85) 46 9 (.string ⟨#[]⟩) 16 rfl Tryd.underlying46 info9 rfl (by decide) (by omega) u10 (wordsF k x ++ wordsM k x ++ (x.f7.take a).map itoaB) (itoaB n) [.string (itoaB n)] (fun _ => True) (fun _ => False) rfl rfl ?aP (fun _ hk => hk.elim) ?aF ?aO ?aB ?aS ?aL ?_; (case aP => exact rfl); (case aB => exact HB1.out); (case aF => exact (fun _ _ => trivial)); (case aO => exact HO.out); (case aS => exact HB1.out.size); (case aL => exact HTL.out); intro v7 w7 ho hb hg_ hat_; clear hg_ hat_; have n1_ : Aside0 (Kd.R Kd.string 9 w7 wz.heap.size (fun _ => True) v7 (wordsF k x ++ wordsM k x ++ (x.f7.take a).map itoaB ++ [itoaB n])) := ⟨ho⟩; have n3_ := Aside0.mk hb; clear HO HB1 ho hb; have HO := n1_; have HB1 := n3_; clear n1_ n3_))
                  go_roundw
                  case rel => exact ⟨a + 1, by go_num, by omega, by rw [HT2.out]; exact HO, HB1⟩
                  case measure => simp [intOf]; omega
                · obtain rfl : a = x.f7.length := by omega
                  rw [List.take_length] at HO
                  clear hlt ha
                  have HOW : Aside0 (Kd.R Kd.string 9 wr wz.heap.size (fun _ => True) u10 (wordsX x)) := ⟨by unfold wordsX; rw [HKN.out]; exact HO.out⟩
                  have HBL2 : Aside0 (Lib.IsBuilder 61 5 w.heap.size w.heap.size (Lib.strCells (textOf (l.take j))) wr) := ⟨builder_below HBL.out (HZ0.out.trans (HB1.out.mono HZ0.out.size))⟩
                  go_wp2_with (go_at_call 33; refine (put_any w.heap.size (textOf (l.take j)) (wordsX x) _ HBL2.out HOW.out (by unfold wordsX wordsK wordsF; simp) HSZ.out (HZ.out.trans (HB1.out.mono HZ.out.size)).size).mono ?_; rintro e w9 ⟨rfl, h9, hb⟩; have BL9 := Aside0.mk h9; have HB9 := Aside0.mk ((HZ.out.trans (HB1.out.mono HZ.out.size)).trans hb); clear h9 hb)
                  go_roundw
                  case rel => exact ⟨j + 1, by go_num, by omega, ⟨by rw [HTX.out]; exact BL9.out⟩, HB9, HALL⟩
                  case measure => simp [intOf]; omega
        · have HCL := Aside0.mk hcl
          clear hcl
          go_upto_region 9 with (first | (go_at_call 10; refine (chk_any x A7 c7 _ (Kd.C_below HC7.out (HB.out.trans ((below_alloc (Below.refl _ wo) _).mono HB.out.size))) H7.out).mono ?_; rw [HCK.out]; rintro e w1 ⟨rfl, hb⟩; have BE := Aside0.mk (blk_below (heap_alloc_new wo (.cells (evC x (.slice A7 x.f7.length c7)) 24)) hb); have HE := Aside0.mk ((below_alloc (Below.refl _ wo) (.cells (evC x (.slice A7 x.f7.length c7)) 24)).trans (hb.mono (by rw [size_alloc]; exact Nat.le_succ _))); clear hb) | (go_at_call 23; refine (form_c1 k HK1.out HK2.out HCL.out wo.heap.size x (.slice A7 x.f7.length c7) _ HKK.out BE.out).mono ?_; rintro e w2 ⟨_, rfl, ⟨AF, rfl, hF⟩, hb⟩; have FF := Aside0.mk hF; have n1_ := Aside0.mk (blk_below BE.out hb); have n2_ := Aside0.mk (HE.out.trans (hb.mono HE.out.size)); clear BE HE; have BE := n1_; have HE := n2_; clear n1_ n2_ hF hb))
          have BF := Aside0.mk (heap_alloc_new w2 (.cells #[.string (wordB k), .slice AF (foK k).length (foK k).length, .pointer (some ⟨wo.heap.size, 6, none⟩), .slice none 0 0, .pointer none, .bool false] 48))
          have n1_ := Aside0.mk (blk_below BE.out (bel1 w2 (.cells #[.string (wordB k), .slice AF (foK k).length (foK k).length, .pointer (some ⟨wo.heap.size, 6, none⟩), .slice none 0 0, .pointer none, .bool false] 48)))
          have HZ0 := Aside0.mk (HE.out.trans ((bel1 w2 (.cells #[.string (wordB k), .slice AF (foK k).length (foK k).length, .pointer (some ⟨wo.heap.size, 6, none⟩), .slice none 0 0, .pointer none, .bool false] 48)).mono HE.out.size))
          have n2_ : Aside0 (∀ (j o : Nat), (foK k)[j]? = some o → ∃ ad, AF = some ad ∧ (w2.alloc (.cells #[.string (wordB k), .slice AF (foK k).length (foK k).length, .pointer (some ⟨wo.heap.size, 6, none⟩), .slice none 0 0, .pointer none, .bool false] 48)).cell? (ad.add j) = some (.pointer (some ⟨wo.heap.size, o, none⟩))) := ⟨fun j o hj => by obtain ⟨ad, h1, _, h2⟩ := FF.out j o hj; exact ⟨ad, h1, pw_cell_below (bel1 w2 _) h2⟩⟩
          clear FF BE
          generalize w2.heap.size = g8 at BF ⊢
          generalize w2.alloc (.cells #[.string (wordB k), .slice AF (foK k).length (foK k).length, .pointer (some ⟨wo.heap.size, 6, none⟩), .slice none 0 0, .pointer none, .bool false] 48) = wz at *
          have HZ := Aside0.mk (HB.out.trans (HZ0.out.mono HB.out.size))
          have BE := n1_
          have FF := n2_
          clear n1_ n2_ HE
          have y0 : wz.cell? ⟨g8, 0, none⟩ = some (.string (wordB k)) := (blk_cell BF.out 0).trans rfl
          go_wp2_with (first | ((with_reducible refine gate_dst (N := 32) rfl ?_); refine Kd.R_lit Kd.string (w0 := wz) wz.heap.size 9 ?hg (N := 32) ?hd (xs := [wordB k]) (inner := [.string (wordB k)]) (ok := fun _ => True) (okp := fun _ => True) ?hr ?hp (fun _ hk => hk) trivial ?hb ?hs (by simp) ?_; (case hd => rfl); (case hg => rfl); (case hr => first | (go_simp; done) | (go_simp; rfl)); (case hp => exact (Reps.one (show Kd.M Kd.string _ _ _ (wordB k) [.string (wordB k)] from rfl) (Reps.none _ _))); (case hb => exact Below.refl _ _); (case hs => exact Nat.le_refl _); intro v0 w3 ho hb hg_ hat_; clear hg_ hat_; have HO := Aside0.mk ho; have HB1 := Aside0.mk hb; clear ho hb; have y1 : w3.cell? ⟨g8, 1, none⟩ = some (.slice AF (foK k).length (foK k).length) := cell_keep BF.out HB1.out rfl))
          clear y0 y1
          go_loopw [10, 36] (fun v10 i wr => ∃ a : Nat, i = .int .i64 a ∧ a ≤ (foK k).length ∧ Aside0 (Kd.R Kd.string 9 wr wz.heap.size (fun _ => True) v10 (wordB k :: ((foK k).take a).map (fun o => itoaB (getK x o)))) ∧ Aside0 (Below wz.heap.size wz wr)) (fun _ i _ => (foK k).length - (intOf i).toNat)
          case atStart => exact ⟨0, rfl, by omega, HO, HB1⟩
          case round =>
            clear HO HB1
            obtain ⟨a, rfl, ha, HO, HB1⟩ := hrel
            have hfl := fo_len k
            by_cases hlt : a < (foK k).length
            · obtain ⟨o, ho⟩ : ∃ o, (foK k)[a]? = some o := ⟨_, List.getElem?_eq_getElem hlt⟩
              obtain ⟨ad1, rfl, hc1⟩ := FF.out a o ho
              have ho6 := fo_le k o (List.mem_of_getElem? ho)
              have x1 : wr.cell? (ad1.add a) = some (.pointer (some ⟨wo.heap.size, o, none⟩)) := pw_cell_below HB1.out hc1
              obtain ⟨n, hn⟩ : ∃ n, n = getK x o := ⟨_, rfl⟩
              have x2 : wr.cell? ⟨wo.heap.size, o, none⟩ = some (.int .i64 n) := cell_keep BE.out HB1.out (by rw [hn]; exact ev_get x _ o ho6.1 ho6.2)
              have HRG := Aside0.mk (hn ▸ HRX.out.1 o ho6.2)
              have HT2 : Aside0 (wordB k :: ((foK k).take (a + 1)).map (fun o => itoaB (getK x o)) = (wordB k :: ((foK k).take a).map (fun o => itoaB (getK x o))) ++ [itoaB n]) := ⟨by rw [take_next _ _ a o ho, hn]; rfl⟩
              have HTL : Aside0 (((wordB k :: ((foK k).take a).map (fun o => itoaB (getK x o))).length + 1) * 16 ≤ 140737488355328) := ⟨by rw [List.length_cons, List.length_map, List.length_take]; omega⟩
              clear hc1 ho ho6 hn
              go_wp2_with (first
                | (go_at_call 32; refine (itoa_any (n) HRG.out _ (HL.out.below (HZ.out.trans (HB1.out.mono HZ.out.size)))).mono ?_; rintro e w3 ⟨rfl, hb⟩; have n1_ := Aside0.mk (Kd.R_below HO.out hb); have n3_ := Aside0.mk (below_then HB1.out HB1.out.size hb); clear HO HB1 hb; have HO := n1_; have HB1 := n3_; clear n1_ n3_)
                | ((with_reducible refine gate_builtin (b := .append) (xs := #[.tmp 40, .tmp 45]) rfl ?_); at_builtin; refine Kd.R_append Kd.string (w0 := wz) wz.heap.size rfl (.tmp 40) (.tmp 45) 46 9 (.string ⟨#[]⟩) 16 rfl Tryd.underlying46 info9 rfl (by decide) (by omega) u10 (wordB k :: ((foK k).take a).map (fun o => itoaB (getK x o))) (itoaB n) [.string (itoaB n)] (fun _ => True) (fun _ => False) rfl rfl ?aP (fun _ hk => hk.elim) ?aF ?aO ?aB ?aS ?aL ?_; (case aP => exact rfl); (case aB => exact HB1.out); (case aF => exact (fun _ _ => trivial)); (case aO => exact HO.out); (case aS => exact HB1.out.size); (case aL => exact HTL.out); intro v7 w7 ho hb hg_ hat_; clear hg_ hat_; have n1_ : Aside0 (Kd.R Kd.string 9 w7 wz.heap.size (fun _ => True) v7 (wordB k :: ((foK k).take a).map (fun o => itoaB (getK x o)) ++ [itoaB n])) := ⟨ho⟩; have n3_ := Aside0.mk hb; clear HO HB1 ho hb; have HO := n1_; have HB1 := n3_; clear n1_ n3_))
              go_roundw
              case rel => exact ⟨a + 1, by go_num, by omega, by rw [HT2.out]; exact HO, HB1⟩
              case measure => simp [intOf]; omega
            · obtain rfl : a = (foK k).length := by omega
              rw [List.take_length] at HO
              clear hlt ha
              have HO0 : Aside0 (Kd.R Kd.string 9 wr wz.heap.size (fun _ => True) u10 (wordsF k x)) := HO
              clear HO
              have HO := HO0
              clear HO0
              have z2 : wr.cell? ⟨g8, 2, none⟩ = some (.pointer (some ⟨wo.heap.size, 6, none⟩)) := cell_keep BF.out HB1.out rfl
              have z3 : wr.cell? ⟨g8, 3, none⟩ = some (.slice none 0 0) := cell_keep BF.out HB1.out rfl
              have hu46 := Tryd.underlying46
              have e7 : wr.cell? ⟨wo.heap.size, 7, none⟩ = some (.slice A7 x.f7.length c7) := cell_keep BE.out HB1.out rfl
              have HM : Aside0 (wordsM k x = [itoaB x.f6]) := ⟨by unfold wordsM; rw [HCL.out]; rfl⟩
              have HTL : Aside0 (((wordsF k x).length + 1) * 16 ≤ 140737488355328) := ⟨by unfold wordsF; rw [List.length_cons, List.length_map]; omega⟩
              have x6 : wr.cell? ⟨wo.heap.size, 6, none⟩ = some (.int .i64 x.f6) := cell_keep BE.out HB1.out rfl
              obtain ⟨n6, hn6⟩ : ∃ n, n = x.f6 := ⟨_, rfl⟩
              rw [← hn6] at x6
              have HN6 := Aside0.mk hn6
              have HRG : Aside0 (-9223372036854775808 ≤ n6 ∧ n6 ≤ 9223372036854775807) := ⟨hn6 ▸ HRX.out.1 6 (by omega)⟩
              clear hn6
              go_wp2_with (first
                | (go_at_call 32; refine (itoa_any (n6) HRG.out _ (HL.out.below (HZ.out.trans (HB1.out.mono HZ.out.size)))).mono ?_; rintro e w3 ⟨rfl, hb⟩; have n1_ := Aside0.mk (Kd.R_below HO.out hb); have n3_ := Aside0.mk (below_then HB1.out HB1.out.size hb); clear HO HB1 hb; have HO := n1_; have HB1 := n3_; clear n1_ n3_)
                | ((with_reducible refine gate_builtin (b := .append) (xs := #[.tmp 52, .tmp 58]) rfl ?_); at_builtin; refine Kd.R_append Kd.string (w0 := wz) wz.heap.size rfl (.tmp 52) (.tmp 58) 46 9 (.string ⟨#[]⟩) 16 rfl Tryd.underlying46 info9 rfl (by decide) (by omega) u10 (wordsF k x) (itoaB n6) [.string (itoaB n6)] (fun _ => True) (fun _ => False) rfl rfl ?aP (fun _ hk => hk.elim) ?aF ?aO ?aB ?aS ?aL ?_; (case aP => exact rfl); (case aB => exact HB1.out); (case aF => exact (fun _ _ => trivial)); (case aO => exact HO.out); (case aS => exact HB1.out.size); (case aL => exact HTL.out); intro v7 w7 ho hb hg_ hat_; clear hg_ hat_; have n1_ : Aside0 (Kd.R Kd.string 9 w7 wz.heap.size (fun _ => True) v7 (wordsF k x ++ [itoaB n6])) := ⟨ho⟩; have n3_ := Aside0.mk hb; clear HO HB1 ho hb; have HO := n1_; have HB1 := n3_; clear n1_ n3_; have e8 : w7.cell? ⟨wo.heap.size, 7, none⟩ = some (.slice A7 x.f7.length c7) := cell_keep BE.out HB1.out rfl))
              have HO0 : Aside0 (Kd.R Kd.string 9 w7 wz.heap.size (fun _ => True) v7 (wordsF k x ++ wordsM k x)) := ⟨by rw [HM.out, ← HN6.out]; exact HO.out⟩
              clear HO
              have HO := HO0
              clear HO0
              go_loopw [10, 78] (fun v10 i wr => ∃ a : Nat, i = .int .i64 a ∧ a ≤ x.f7.length ∧ Aside0 (Kd.R Kd.string 9 wr wz.heap.size (fun _ => True) v10 (wordsF k x ++ wordsM k x ++ (x.f7.take a).map itoaB)) ∧ Aside0 (Below wz.heap.size wz wr)) (fun _ i _ => x.f7.length - (intOf i).toNat)
              case atStart => exact ⟨0, rfl, by omega, ⟨by simpa using HO.out⟩, HB1⟩
              case round =>
                clear HO HB1
                obtain ⟨a, rfl, ha, HO, HB1⟩ := hrel
                have h7m := HC7.out.2.1
                by_cases hlt : a < x.f7.length
                · obtain ⟨n, hn⟩ : ∃ n, x.f7[a]? = some n := ⟨_, List.getElem?_eq_getElem hlt⟩
                  obtain ⟨ad7, rfl, hc1⟩ := num_at (Kd.C_below HC7.out HZ.out) a n hn
                  have x1 : wr.cell? (ad7.add a) = some (.int .i64 n) := pw_cell_below HB1.out hc1
                  have HRG := Aside0.mk (HRX.out.2 n (List.mem_of_getElem? hn))
                  have HT2 : Aside0 (wordsF k x ++ wordsM k x ++ (x.f7.take (a + 1)).map itoaB = (wordsF k x ++ wordsM k x ++ (x.f7.take a).map itoaB) ++ [itoaB n]) := ⟨by rw [take_next _ _ a n hn, List.append_assoc (wordsF k x ++ wordsM k x)]⟩
                  have HTL : Aside0 (((wordsF k x ++ wordsM k x ++ (x.f7.take a).map itoaB).length + 1) * 16 ≤ 140737488355328) := ⟨by have h1 := HWL.out; rw [wordsK, List.length_append, List.length_map] at h1; rw [List.length_append, List.length_map, List.length_take]; omega⟩
                  clear hc1 hn
                  go_wp2_with (first
                    | (go_at_call 32; refine (itoa_any (n) HRG.out _ (HL.out.below (HZ.out.trans (HB1.out.mono HZ.out.size)))).mono ?_; rintro e w3 ⟨rfl, hb⟩; have n1_ := Aside0.mk (Kd.R_below HO.out hb); have n3_ := Aside0.mk (below_then HB1.out HB1.out.size hb); clear HO HB1 hb; have HO := n1_; have HB1 := n3_; clear n1_ n3_)
                    | ((with_reducible refine gate_builtin (b := .append) (xs := #[.tmp 82, .tmp 85]) rfl ?_); at_builtin; refine Kd.R_append Kd.string (w0 := wz) wz.heap.size rfl (.tmp 82) (.tmp 85) 46 9 (.string ⟨#[]⟩) 16 rfl Tryd.underlying46 info9 rfl (by decide) (by omega) u10 (wordsF k x ++ wordsM k x ++ (x.f7.take a).map itoaB) (itoaB n) [.string (itoaB n)] (fun _ => True) (fun _ => False) rfl rfl ?aP (fun _ hk => hk.elim) ?aF ?aO ?aB ?aS ?aL ?_; (case aP => exact rfl); (case aB => exact HB1.out); (case aF => exact (fun _ _ => trivial)); (case aO => exact HO.out); (case aS => exact HB1.out.size); (case aL => exact HTL.out); intro v7 w7 ho hb hg_ hat_; clear hg_ hat_; have n1_ : Aside0 (Kd.R Kd.string 9 w7 wz.heap.size (fun _ => True) v7 (wordsF k x ++ wordsM k x ++ (x.f7.take a).map itoaB ++ [itoaB n])) := ⟨ho⟩; have n3_ := Aside0.mk hb; clear HO HB1 ho hb; have HO := n1_; have HB1 := n3_; clear n1_ n3_))
                  go_roundw
                  case rel => exact ⟨a + 1, by go_num, by omega, by rw [HT2.out]; exact HO, HB1⟩
                  case measure => simp [intOf]; omega
                · obtain rfl : a = x.f7.length := by omega
                  rw [List.take_length] at HO
                  clear hlt ha
                  have HOW : Aside0 (Kd.R Kd.string 9 wr wz.heap.size (fun _ => True) u10 (wordsX x)) := ⟨by unfold wordsX; rw [HKN.out]; exact HO.out⟩
                  have HBL2 : Aside0 (Lib.IsBuilder 61 5 w.heap.size w.heap.size (Lib.strCells (textOf (l.take j))) wr) := ⟨builder_below HBL.out (HZ0.out.trans (HB1.out.mono HZ0.out.size))⟩
                  go_wp2_with (go_at_call 33; refine (put_any w.heap.size (textOf (l.take j)) (wordsX x) _ HBL2.out HOW.out (by unfold wordsX wordsK wordsF; simp) HSZ.out (HZ.out.trans (HB1.out.mono HZ.out.size)).size).mono ?_; rintro e w9 ⟨rfl, h9, hb⟩; have BL9 := Aside0.mk h9; have HB9 := Aside0.mk ((HZ.out.trans (HB1.out.mono HZ.out.size)).trans hb); clear h9 hb)
                  go_roundw
                  case rel => exact ⟨j + 1, by go_num, by omega, ⟨by rw [HTX.out]; exact BL9.out⟩, HB9, HALL⟩
                  case measure => simp [intOf]; omega
        · have HCL := Aside0.mk hcl
          clear hcl
          go_upto_region 9 with (first | (go_at_call 10; refine (chk_any x A7 c7 _ (Kd.C_below HC7.out (HB.out.trans ((below_alloc (Below.refl _ wo) _).mono HB.out.size))) H7.out).mono ?_; rw [HCK.out]; rintro e w1 ⟨rfl, hb⟩; have BE := Aside0.mk (blk_below (heap_alloc_new wo (.cells (evC x (.slice A7 x.f7.length c7)) 24)) hb); have HE := Aside0.mk ((below_alloc (Below.refl _ wo) (.cells (evC x (.slice A7 x.f7.length c7)) 24)).trans (hb.mono (by rw [size_alloc]; exact Nat.le_succ _))); clear hb) | (go_at_call 23; refine (form_c2 k HK1.out HK2.out HCL.out wo.heap.size x (.slice A7 x.f7.length c7) _ HKK.out BE.out).mono ?_; rintro e w2 ⟨_, bW, rfl, ⟨AF, rfl, hF⟩, hW, hb⟩; have BW := Aside0.mk hW; clear hW; have FF := Aside0.mk hF; have n1_ := Aside0.mk (blk_below BE.out hb); have n2_ := Aside0.mk (HE.out.trans (hb.mono HE.out.size)); clear BE HE; have BE := n1_; have HE := n2_; clear n1_ n2_ hF hb))
          have BF := Aside0.mk (heap_alloc_new w2 (.cells #[.string (wordB k), .slice AF (foK k).length (foK k).length, .pointer none, .slice (some ⟨bW, 0, none⟩) (wsK k).length (wsK k).length, .pointer (some ⟨wo.heap.size, 6, none⟩), .bool false] 48))
          have n1_ := Aside0.mk (blk_below BE.out (bel1 w2 (.cells #[.string (wordB k), .slice AF (foK k).length (foK k).length, .pointer none, .slice (some ⟨bW, 0, none⟩) (wsK k).length (wsK k).length, .pointer (some ⟨wo.heap.size, 6, none⟩), .bool false] 48)))
          have n3_ := Aside0.mk (blk_below BW.out (bel1 w2 (.cells #[.string (wordB k), .slice AF (foK k).length (foK k).length, .pointer none, .slice (some ⟨bW, 0, none⟩) (wsK k).length (wsK k).length, .pointer (some ⟨wo.heap.size, 6, none⟩), .bool false] 48)))
          clear BW
          have BW := n3_
          clear n3_
          have HZ0 := Aside0.mk (HE.out.trans ((bel1 w2 (.cells #[.string (wordB k), .slice AF (foK k).length (foK k).length, .pointer none, .slice (some ⟨bW, 0, none⟩) (wsK k).length (wsK k).length, .pointer (some ⟨wo.heap.size, 6, none⟩), .bool false] 48)).mono HE.out.size))
          have n2_ : Aside0 (∀ (j o : Nat), (foK k)[j]? = some o → ∃ ad, AF = some ad ∧ (w2.alloc (.cells #[.string (wordB k), .slice AF (foK k).length (foK k).length, .pointer none, .slice (some ⟨bW, 0, none⟩) (wsK k).length (wsK k).length, .pointer (some ⟨wo.heap.size, 6, none⟩), .bool false] 48)).cell? (ad.add j) = some (.pointer (some ⟨wo.heap.size, o, none⟩))) := ⟨fun j o hj => by obtain ⟨ad, h1, _, h2⟩ := FF.out j o hj; exact ⟨ad, h1, pw_cell_below (bel1 w2 _) h2⟩⟩
          clear FF BE
          generalize w2.heap.size = g8 at BF ⊢
          generalize w2.alloc (.cells #[.string (wordB k), .slice AF (foK k).length (foK k).length, .pointer none, .slice (some ⟨bW, 0, none⟩) (wsK k).length (wsK k).length, .pointer (some ⟨wo.heap.size, 6, none⟩), .bool false] 48) = wz at *
          have HZ := Aside0.mk (HB.out.trans (HZ0.out.mono HB.out.size))
          have BE := n1_
          have FF := n2_
          clear n1_ n2_ HE
          have y0 : wz.cell? ⟨g8, 0, none⟩ = some (.string (wordB k)) := (blk_cell BF.out 0).trans rfl
          go_wp2_with (first | ((with_reducible refine gate_dst (N := 32) rfl ?_); refine Kd.R_lit Kd.string (w0 := wz) wz.heap.size 9 ?hg (N := 32) ?hd (xs := [wordB k]) (inner := [.string (wordB k)]) (ok := fun _ => True) (okp := fun _ => True) ?hr ?hp (fun _ hk => hk) trivial ?hb ?hs (by simp) ?_; (case hd => rfl); (case hg => rfl); (case hr => first | (go_simp; done) | (go_simp; rfl)); (case hp => exact (Reps.one (show Kd.M Kd.string _ _ _ (wordB k) [.string (wordB k)] from rfl) (Reps.none _ _))); (case hb => exact Below.refl _ _); (case hs => exact Nat.le_refl _); intro v0 w3 ho hb hg_ hat_; clear hg_ hat_; have HO := Aside0.mk ho; have HB1 := Aside0.mk hb; clear ho hb; have y1 : w3.cell? ⟨g8, 1, none⟩ = some (.slice AF (foK k).length (foK k).length) := cell_keep BF.out HB1.out rfl))
          clear y0 y1
          go_loopw [10, 36] (fun v10 i wr => ∃ a : Nat, i = .int .i64 a ∧ a ≤ (foK k).length ∧ Aside0 (Kd.R Kd.string 9 wr wz.heap.size (fun _ => True) v10 (wordB k :: ((foK k).take a).map (fun o => itoaB (getK x o)))) ∧ Aside0 (Below wz.heap.size wz wr)) (fun _ i _ => (foK k).length - (intOf i).toNat)
          case atStart => exact ⟨0, rfl, by omega, HO, HB1⟩
          case round =>
            clear HO HB1
            obtain ⟨a, rfl, ha, HO, HB1⟩ := hrel
            have hfl := fo_len k
            by_cases hlt : a < (foK k).length
            · obtain ⟨o, ho⟩ : ∃ o, (foK k)[a]? = some o := ⟨_, List.getElem?_eq_getElem hlt⟩
              obtain ⟨ad1, rfl, hc1⟩ := FF.out a o ho
              have ho6 := fo_le k o (List.mem_of_getElem? ho)
              have x1 : wr.cell? (ad1.add a) = some (.pointer (some ⟨wo.heap.size, o, none⟩)) := pw_cell_below HB1.out hc1
              obtain ⟨n, hn⟩ : ∃ n, n = getK x o := ⟨_, rfl⟩
              have x2 : wr.cell? ⟨wo.heap.size, o, none⟩ = some (.int .i64 n) := cell_keep BE.out HB1.out (by rw [hn]; exact ev_get x _ o ho6.1 ho6.2)
              have HRG := Aside0.mk (hn ▸ HRX.out.1 o ho6.2)
              have HT2 : Aside0 (wordB k :: ((foK k).take (a + 1)).map (fun o => itoaB (getK x o)) = (wordB k :: ((foK k).take a).map (fun o => itoaB (getK x o))) ++ [itoaB n]) := ⟨by rw [take_next _ _ a o ho, hn]; rfl⟩
              have HTL : Aside0 (((wordB k :: ((foK k).take a).map (fun o => itoaB (getK x o))).length + 1) * 16 ≤ 140737488355328) := ⟨by rw [List.length_cons, List.length_map, List.length_take]; omega⟩
              clear hc1 ho ho6 hn
              go_wp2_with (first
                | (go_at_call 32; refine (itoa_any (n) HRG.out _ (HL.out.below (HZ.out.trans (HB1.out.mono HZ.out.size)))).mono ?_; rintro e w3 ⟨rfl, hb⟩; have n1_ := Aside0.mk (Kd.R_below HO.out hb); have n3_ := Aside0.mk (below_then HB1.out HB1.out.size hb); clear HO HB1 hb; have HO := n1_; have HB1 := n3_; clear n1_ n3_)
                | ((with_reducible refine gate_builtin (b := .append) (xs := #[.tmp 40, .tmp 45]) rfl ?_); at_builtin; refine Kd.R_append Kd.string (w0 := wz) wz.heap.size rfl (.tmp 40) (.tmp 45) 46 9 (.string ⟨#[]⟩) 16 rfl Tryd.underlying46 info9 rfl (by decide) (by omega) u10 (wordB k :: ((foK k).take a).map (fun o => itoaB (getK x o))) (itoaB n) [.string (itoaB n)] (fun _ => True) (fun _ => False) rfl rfl ?aP (fun _ hk => hk.elim) ?aF ?aO ?aB ?aS ?aL ?_; (case aP => exact rfl); (case aB => exact HB1.out); (case aF => exact (fun _ _ => trivial)); (case aO => exact HO.out); (case aS => exact HB1.out.size); (case aL => exact HTL.out); intro v7 w7 ho hb hg_ hat_; clear hg_ hat_; have n1_ : Aside0 (Kd.R Kd.string 9 w7 wz.heap.size (fun _ => True) v7 (wordB k :: ((foK k).take a).map (fun o => itoaB (getK x o)) ++ [itoaB n])) := ⟨ho⟩; have n3_ := Aside0.mk hb; clear HO HB1 ho hb; have HO := n1_; have HB1 := n3_; clear n1_ n3_))
              go_roundw
              case rel => exact ⟨a + 1, by go_num, by omega, by rw [HT2.out]; exact HO, HB1⟩
              case measure => simp [intOf]; omega
            · obtain rfl : a = (foK k).length := by omega
              rw [List.take_length] at HO
              clear hlt ha
              have HO0 : Aside0 (Kd.R Kd.string 9 wr wz.heap.size (fun _ => True) u10 (wordsF k x)) := HO
              clear HO
              have HO := HO0
              clear HO0
              have z2 : wr.cell? ⟨g8, 2, none⟩ = some (.pointer none) := cell_keep BF.out HB1.out rfl
              have z3 : wr.cell? ⟨g8, 3, none⟩ = some (.slice (some ⟨bW, 0, none⟩) (wsK k).length (wsK k).length) := cell_keep BF.out HB1.out rfl
              have hu46 := Tryd.underlying46
              have e7 : wr.cell? ⟨wo.heap.size, 7, none⟩ = some (.slice A7 x.f7.length c7) := cell_keep BE.out HB1.out rfl
              have x6 : wr.cell? ⟨wo.heap.size, 6, none⟩ = some (.int .i64 x.f6) := cell_keep BE.out HB1.out rfl
              have z4 : wr.cell? ⟨g8, 4, none⟩ = some (.pointer (some ⟨wo.heap.size, 6, none⟩)) := cell_keep BF.out HB1.out rfl
              have hn6 := ws_in k x HCL.out HOK.out HKK.out
              obtain ⟨n6, hn6e, hn6l⟩ : ∃ n : Nat, x.f6 = n ∧ n < (wsK k).length := ⟨x.f6.toNat, by omega, by omega⟩
              rw [hn6e] at x6
              clear hn6
              have HM : Aside0 (wordsM k x = [(wsK k).getD n6 ⟨#[]⟩]) := ⟨by unfold wordsM; rw [HCL.out, hn6e]; rfl⟩
              have xw : wr.cell? ⟨bW, n6, none⟩ = some (.string ((wsK k).getD n6 ⟨#[]⟩)) := cell_keep BW.out HB1.out (by simp [hn6l])
              have HTL : Aside0 (((wordsF k x).length + 1) * 16 ≤ 140737488355328) := ⟨by unfold wordsF; rw [List.length_cons, List.length_map]; omega⟩
              have HX6 : Aside0 ((evC x (.slice A7 x.f7.length c7))[6]? = some (.int .i64 (n6 : Int))) := ⟨by rw [← hn6e]; rfl⟩
              have HXW : Aside0 ((((wsK k).map Value.string).toArray)[n6]? = some (.string ((wsK k).getD n6 ⟨#[]⟩))) := ⟨by simp [hn6l]⟩
              have hwl := ws_len k
              generalize (wsK k).length = nw at *
              generalize (wsK k).getD n6 ⟨#[]⟩ = sw at *
              clear hn6e
              go_wp2_with (fail)
              go_region_held3 (fun X => X.cell? ⟨g8, 3, none⟩ = some (.slice (some ⟨bW, 0, none⟩) nw nw) ∧ X.cell? ⟨g8, 4, none⟩ = some (.pointer (some ⟨wo.heap.size, 6, none⟩)) ∧ X.cell? ⟨wo.heap.size, 6, none⟩ = some (.int .i64 (n6 : Int)) ∧ X.cell? ⟨bW, n6, none⟩ = some (.string sw)) (first | go_keep | exact ⟨cell_keep BF.out HB2.out rfl, cell_keep BF.out HB2.out rfl, cell_keep BE.out HB2.out HX6.out, cell_keep BW.out HB2.out HXW.out⟩)
                (first | (refine Kd.R_append_step Kd.string (w0 := wz) wz.heap.size (by rfl) (.tmp 64) (.tmp 73) 46 9 (.string ⟨#[]⟩) 16 (by rfl) Tryd.underlying46 info9 (by rfl) (by decide) (by omega) u10 (wordsF k x) sw [.string sw] (fun _ => True) (fun _ => False) (by rfl) (by rfl) rfl (fun _ hk => hk.elim) (fun _ _ => trivial) (Kd.R_below HO.out (below_drew (Below.refl _ _))) (HB1.out.drew) HB1.out.size HTL.out ?_; intro v7 w7 ho hb _ _; have HO2 := Aside0.mk ho; have HB2 := Aside0.mk hb; clear ho hb))
              clear HO HB1
              have HO := HO2
              have HB1 := HB2
              clear HO2 HB2
              have e8 : w7.cell? ⟨wo.heap.size, 7, none⟩ = some (.slice A7 x.f7.length c7) := cell_keep BE.out HB1.out rfl
              go_wp2_with (fail)
              have HO0 : Aside0 (Kd.R Kd.string 9 w7 wz.heap.size (fun _ => True) v7 (wordsF k x ++ wordsM k x)) := ⟨by rw [HM.out]; exact HO.out⟩
              clear HO
              have HO := HO0
              clear HO0
              go_loopw [10, 78] (fun v10 i wr => ∃ a : Nat, i = .int .i64 a ∧ a ≤ x.f7.length ∧ Aside0 (Kd.R Kd.string 9 wr wz.heap.size (fun _ => True) v10 (wordsF k x ++ wordsM k x ++ (x.f7.take a).map itoaB)) ∧ Aside0 (Below wz.heap.size wz wr)) (fun _ i _ => x.f7.length - (intOf i).toNat)
              case atStart => exact ⟨0, rfl, by omega, ⟨by simpa using HO.out⟩, HB1⟩
              case round =>
                clear HO HB1
                obtain ⟨a, rfl, ha, HO, HB1⟩ := hrel
                have h7m := HC7.out.2.1
                by_cases hlt : a < x.f7.length
                · obtain ⟨n, hn⟩ : ∃ n, x.f7[a]? = some n := ⟨_, List.getElem?_eq_getElem hlt⟩
                  obtain ⟨ad7, rfl, hc1⟩ := num_at (Kd.C_below HC7.out HZ.out) a n hn
                  have x1 : wr.cell? (ad7.add a) = some (.int .i64 n) := pw_cell_below HB1.out hc1
                  have HRG := Aside0.mk (HRX.out.2 n (List.mem_of_getElem? hn))
                  have HT2 : Aside0 (wordsF k x ++ wordsM k x ++ (x.f7.take (a + 1)).map itoaB = (wordsF k x ++ wordsM k x ++ (x.f7.take a).map itoaB) ++ [itoaB n]) := ⟨by rw [take_next _ _ a n hn, List.append_assoc (wordsF k x ++ wordsM k x)]⟩
                  have HTL : Aside0 (((wordsF k x ++ wordsM k x ++ (x.f7.take a).map itoaB).length + 1) * 16 ≤ 140737488355328) := ⟨by have h1 := HWL.out; rw [wordsK, List.length_append, List.length_map] at h1; rw [List.length_append, List.length_map, List.length_take]; omega⟩
                  clear hc1 hn
                  go_wp2_with (first
                    | (go_at_call 32; refine (itoa_any (n) HRG.out _ (HL.out.below (HZ.out.trans (HB1.out.mono HZ.out.size)))).mono ?_; rintro e w3 ⟨rfl, hb⟩; have n1_ := Aside0.mk (Kd.R_below HO.out hb); have n3_ := Aside0.mk (below_then HB1.out HB1.out.size hb); clear HO HB1 hb; have HO := n1_; have HB1 := n3_; clear n1_ n3_)
                    | ((with_reducible refine gate_builtin (b := .append) (xs := #[.tmp 82, .tmp 85]) rfl ?_); at_builtin; refine Kd.R_append Kd.string (w0 := wz) wz.heap.size rfl (.tmp 82) (.tmp 85) 46 9 (.string ⟨#[]⟩) 16 rfl Tryd.underlying46 info9 rfl (by decide) (by omega) u10 (wordsF k x ++ wordsM k x ++ (x.f7.take a).map itoaB) (itoaB n) [.string (itoaB n)] (fun _ => True) (fun _ => False) rfl rfl ?aP (fun _ hk => hk.elim) ?aF ?aO ?aB ?aS ?aL ?_; (case aP => exact rfl); (case aB => exact HB1.out); (case aF => exact (fun _ _ => trivial)); (case aO => exact HO.out); (case aS => exact HB1.out.size); (case aL => exact HTL.out); intro v7 w7 ho hb hg_ hat_; clear hg_ hat_; have n1_ : Aside0 (Kd.R Kd.string 9 w7 wz.heap.size (fun _ => True) v7 (wordsF k x ++ wordsM k x ++ (x.f7.take a).map itoaB ++ [itoaB n])) := ⟨ho⟩; have n3_ := Aside0.mk hb; clear HO HB1 ho hb; have HO := n1_; have HB1 := n3_; clear n1_ n3_))
                  go_roundw
                  case rel => exact ⟨a + 1, by go_num, by omega, by rw [HT2.out]; exact HO, HB1⟩
                  case measure => simp [intOf]; omega
                · obtain rfl : a = x.f7.length := by omega
                  rw [List.take_length] at HO
                  clear hlt ha
                  have HOW : Aside0 (Kd.R Kd.string 9 wr wz.heap.size (fun _ => True) u10 (wordsX x)) := ⟨by unfold wordsX; rw [HKN.out]; exact HO.out⟩
                  have HBL2 : Aside0 (Lib.IsBuilder 61 5 w.heap.size w.heap.size (Lib.strCells (textOf (l.take j))) wr) := ⟨builder_below HBL.out (HZ0.out.trans (HB1.out.mono HZ0.out.size))⟩
                  go_wp2_with (go_at_call 33; refine (put_any w.heap.size (textOf (l.take j)) (wordsX x) _ HBL2.out HOW.out (by unfold wordsX wordsK wordsF; simp) HSZ.out (HZ.out.trans (HB1.out.mono HZ.out.size)).size).mono ?_; rintro e w9 ⟨rfl, h9, hb⟩; have BL9 := Aside0.mk h9; have HB9 := Aside0.mk ((HZ.out.trans (HB1.out.mono HZ.out.size)).trans hb); clear h9 hb)
                  go_roundw
                  case rel => exact ⟨j + 1, by go_num, by omega, ⟨by rw [HTX.out]; exact BL9.out⟩, HB9, HALL⟩
                  case measure => simp [intOf]; omega
    · obtain rfl : j = l.length := by omega
      rw [List.take_length] at HBL HAL
      have HPR : Aside0 (printOf l = (textOf l, 0)) := ⟨by unfold printOf; rw [if_pos (List.all_eq_true.2 HAL.out)]⟩
      go_wp2_with (go_at_call 34; refine (Tryd.Builder_String_any w.heap.size w.heap.size (textOf l).data.toList _ HBL.out HB.out.size).mono ?_; rintro e w1 ⟨rfl, hb⟩; have HE := Aside0.mk (HB.out.trans hb); clear hb)
      go_ret2
      exact ⟨ret_print (a := (textOf l, 0)) HPR.out.symm, HE.out⟩
end Go.Proofs.YtiapfhlipoomaaaDoor.Given
end
section
namespace Go.Proofs.YtiapfhlipoomaaaDoor.Given
open Go.RowKit Go.Proofs.YtiapfhlipoomaaaDoorW.PrintWords Go.Proofs.YtiapfhlipoomaaaDoorW.PrintLast Go.Proofs.YtiapfhlipoomaaaDoorW.PrintMore Go.Proofs.YtiapfhlipoomaaaDoor.Print
set_option linter.unusedVariables false
set_option linter.unusedSimpArgs false
set_option maxRecDepth 100000 in
set_option maxHeartbeats 2000000 in
theorem number_yes (t : ByteArray) (v : Int) (h : numOf t = some v) (w : World) (hL : LW w) (hsz : t.size ≤ 281474976710656) :
    Calls Tryd.prog 58 #[.string t] w fun e w' => e = .returned (.tuple #[.int .i64 v, .bool true]) ∧ Below w.heap.size w w' := by
  have HV := Aside0.mk h
  have hq : ((itoaB v).toList == t.toList) = true := by simpa using (numOf_some h).2
  have HQ := Aside0.mk (numOf_some h).1
  have HL := Aside0.mk hL
  clear h hL
  go_enter Tryd.func58, Tryd.ntmps58
  go_wp2_with (first
    | (go_at_call 69; refine (atoi_good t v HV.out _ hsz).mono ?_; rintro e w2 ⟨rfl, hb⟩; have HB := Aside0.mk hb; clear hb)
    | (go_at_call 32; refine (itoa_any v HQ.out _ (HL.out.below HB.out)).mono ?_; rintro e w3 ⟨rfl, hb⟩; have n3_ := Aside0.mk (below_step HB.out hb); clear HB hb; have HB := n3_; clear n3_))
  go_ret2
  exact ⟨rfl, HB.out⟩
set_option maxRecDepth 100000 in
set_option maxHeartbeats 2000000 in
theorem number_no (t : ByteArray) (h : numOf t = none) (w : World) (hL : LW w) (hsz : t.size ≤ 281474976710656) :
    Calls Tryd.prog 58 #[.string t] w fun e w' => (∃ v : Int, e = .returned (.tuple #[.int .i64 v, .bool false])) ∧ Below w.heap.size w w' := by
  have HV := Aside0.mk h
  have HL := Aside0.mk hL
  clear h hL
  go_enter Tryd.func58, Tryd.ntmps58
  go_wp2_with (first
    | (go_at_call 69; refine (atoi_bad t HV.out _ HL.out hsz).mono ?_))
  rintro e w2 ⟨v, er, rfl, h, hb⟩
  have HB := Aside0.mk hb
  clear hb
  rcases h with ⟨a, rfl⟩ | ⟨rfl, hr, hq⟩
  · go_wp2
    go_ret2
    exact ⟨⟨_, rfl⟩, HB.out⟩
  · have HR := Aside0.mk hr
    clear hr
    go_wp2_with (first
      | (go_at_call 32; refine (itoa_any v HR.out _ (HL.out.below HB.out)).mono ?_; rintro e w3 ⟨rfl, hb⟩; have n3_ := Aside0.mk (below_step HB.out hb); clear HB hb; have HB := n3_; clear n3_))
    go_ret2
    exact ⟨⟨_, rfl⟩, HB.out⟩
end Go.Proofs.YtiapfhlipoomaaaDoor.Given
end
section
namespace Go.Proofs.YtiapfhlipoomaaaDoor.Print
open Go.RowKit
open Go.RowKit Go.Proofs.YtiapfhlipoomaaaDoorW.PrintWords Go.Proofs.YtiapfhlipoomaaaDoorW.PrintLast Go.Proofs.YtiapfhlipoomaaaDoorW.PrintMore
attribute [local go_sem] max2_int min2_int max_two min_two max_three min_three max_four min_four
set_option linter.unusedVariables false
set_option linter.unusedSimpArgs false
def slices_Index_string_string.l0 : Nat → List ByteArray → ByteArray → Int → Int → Option (Int)
  | 0, _, _, _, _ => none
  | k + 1, x0, x1, x7, x8 => if x8 < x7 then (if 0 ≤ x8 then (if x8 < (x0.length : Int) then (if x1.toList = (rdOf ByteArray.empty x0 x8).toList then (some x8) else (slices_Index_string_string.l0 k x0 x1 x7 (wrap64 (x8 + 1)))) else (none)) else (none)) else (some (-1))
def slices_Index_string_string.f (k : Nat) (l0 : List ByteArray) (a1 : ByteArray) : Option (Int) := slices_Index_string_string.l0 k l0 a1 (l0.length : Int) 0
theorem slices_Index_string_string.mono_l : ∀ k, (∀ y0 y1 y2 y3, LeO (slices_Index_string_string.l0 k y0 y1 y2 y3) (slices_Index_string_string.l0 (k + 1) y0 y1 y2 y3))
  | 0 => fun _ _ _ _ r h => by simp [slices_Index_string_string.l0] at h
  | k + 1 => by
    have ih0 := slices_Index_string_string.mono_l k
    · intro y0 y1 y2 y3
      unfold slices_Index_string_string.l0
      repeat' first
      | (with_reducible exact ih0 _ _ _ _)
      | (with_reducible exact LeO.refl _)
      | (with_reducible exact LeO.none _)
      | (with_reducible refine LeO.ite ?_ ?_)
      | (with_reducible refine LeO.bind ?_ (fun _ => ?_))
      | exact ih0 _ _ _ _
      | exact LeO.none _
      | refine LeO.ite ?_ ?_
      | refine LeO.bind ?_ (fun _ => ?_)
theorem slices_Index_string_string.mono : ∀ a0 a1 k, LeO (slices_Index_string_string.f k a0 a1) (slices_Index_string_string.f (k + 1) a0 a1) := by
  intro a0 a1 k
  have ih0 := slices_Index_string_string.mono_l k
  unfold slices_Index_string_string.f
  repeat' first
      | (with_reducible exact ih0 _ _ _ _)
      | (with_reducible exact LeO.refl _)
      | (with_reducible exact LeO.none _)
      | (with_reducible refine LeO.ite ?_ ?_)
      | (with_reducible refine LeO.bind ?_ (fun _ => ?_))
      | exact ih0 _ _ _ _
      | exact LeO.none _
      | refine LeO.ite ?_ ?_
      | refine LeO.bind ?_ (fun _ => ?_)
set_option maxHeartbeats 8000000 in
set_option maxRecDepth 100000 in
theorem slices_Index_string_string.calls (k : Nat) (A0 : Option Addr) (c0 : Nat) (l0 : List ByteArray) (a1 : ByteArray) (r : Int) (w : World) (hr0 : Kd.C Kd.string w A0 l0.length l0) (hc0 : l0.length ≤ c0) (h : slices_Index_string_string.f k l0 a1 = some r) :
    Calls Tryd.prog 59 #[.slice A0 l0.length c0, .string a1] w fun e w' => e = .returned (.int .i64 r) ∧ Drawn0 w w' := by
  have HR0 := Aside0.mk hr0
  have HC0 := Aside0.mk hc0
  clear hr0 hc0
  have H : (slices_Index_string_string.l0 k l0 a1 (l0.length : Int) 0) = some r := h
  clear h
  have H' := Aside0.mk H
  clear H
  go_enter Tryd.func59, Tryd.ntmps59
  go_wp2
  go_loopg [8] k (fun kq v8 w' => ∃ (x8_1 : Int), v8 = .int .i64 x8_1 ∧ Aside0 (slices_Index_string_string.l0 kq l0 a1 (l0.length : Int) x8_1 = some r) ∧ Aside0 (kq ≤ k) ∧ Drawn0 w w')
  case atStart => exact ⟨(0), (by first | rfl | (simp; done) | (simp [*]; done)), H', ⟨Nat.le_refl _⟩, by repeat (first | exact Drawn0.refl _ | apply Drawn0.step)⟩
  case round =>
    clear H'
    try clear p2
    obtain ⟨x8_1, rfl, HA, HK1, ⟨m1, rfl⟩⟩ := hrel
    cases gk with
    | zero => exact absurd HA.out (by simp [slices_Index_string_string.l0])
    | succ k1 =>
      have H := HA.out
      clear HA
      simp only [slices_Index_string_string.l0] at H
      by_cases c3 : x8_1 < (l0.length : Int)
      · rw [if_pos c3] at H
        have c3b0 : decide (x8_1 < (l0.length : Int)) = true := decide_eq_true c3
        clear c3
        by_cases c4 : 0 ≤ x8_1
        · rw [if_pos c4] at H
          have c4b0 : decide (0 ≤ x8_1) = true := decide_eq_true c4
          clear c4
          by_cases c5 : x8_1 < (l0.length : Int)
          · rw [if_pos c5] at H
            have c5b0 : decide (x8_1 < (l0.length : Int)) = true := decide_eq_true c5
            clear c5
            by_cases c6 : a1.toList = (rdOf ByteArray.empty l0 x8_1).toList
            · rw [if_pos c6] at H
              have c6b0 : (a1.toList == (rdOf ByteArray.empty l0 x8_1).toList) = true := beq_iff_eq.mpr c6
              have c6b1 : (a1.toList != (rdOf ByteArray.empty l0 x8_1).toList) = false := bne_eq_false_iff_eq.mpr c6
              clear c6
              obtain rfl := Option.some.inj H
              have p152 : 0 ≤ (x8_1 : Int) := of_decide_eq_true (by first | (with_reducible assumption) | assumption)
              have q152 : x8_1 < (l0.length : Int) := of_decide_eq_true (by first | (with_reducible assumption) | assumption)
              obtain ⟨ad152, e152, hx152_0⟩ := Kd.at_string HR0.out x8_1 p152 q152
              cases e152
              replace p152 := eq_true p152
              replace q152 := eq_true q152
              go_wp2
              go_ret
              exact ⟨by first | rfl | (simp; done) | (simp [*]; done), by repeat (first | exact Drawn0.refl _ | apply Drawn0.step)⟩
            · rw [if_neg c6] at H
              have c6b0 : (a1.toList == (rdOf ByteArray.empty l0 x8_1).toList) = false := beq_eq_false_iff_ne.mpr c6
              have c6b1 : (a1.toList != (rdOf ByteArray.empty l0 x8_1).toList) = true := bne_iff_ne.mpr c6
              have H' := Aside0.mk H
              clear H
              have p152 : 0 ≤ (x8_1 : Int) := of_decide_eq_true (by first | (with_reducible assumption) | assumption)
              have q152 : x8_1 < (l0.length : Int) := of_decide_eq_true (by first | (with_reducible assumption) | assumption)
              obtain ⟨ad152, e152, hx152_0⟩ := Kd.at_string HR0.out x8_1 p152 q152
              cases e152
              replace p152 := eq_true p152
              replace q152 := eq_true q152
              go_wp2
              go_roundg k1
              case measure => have := HK1.out; omega
              case rel => exact ⟨(wrap64 (x8_1 + 1)), (by first | rfl | (simp; done) | (simp [*]; done)), H', ⟨by have := HK1.out; omega⟩, by repeat (first | exact Drawn0.refl _ | apply Drawn0.step)⟩
          · rw [if_neg c5] at H
            exact absurd H (by simp)
        · rw [if_neg c4] at H
          exact absurd H (by simp)
      · rw [if_neg c3] at H
        have c3b0 : decide (x8_1 < (l0.length : Int)) = false := decide_eq_false c3
        clear c3
        obtain rfl := Option.some.inj H
        go_wp2
        go_ret
        exact ⟨by first | rfl | (simp; done) | (simp [*]; done), by repeat (first | exact Drawn0.refl _ | apply Drawn0.step)⟩
def squintref18_word.f (a0 : Int) : Option (ByteArray) := (some (([(⟨#[98, 111, 114, 110]⟩ : ByteArray), (⟨#[109, 101, 101, 116]⟩ : ByteArray), (⟨#[105, 110]⟩ : ByteArray), (⟨#[111, 117, 116]⟩ : ByteArray), (⟨#[101, 120, 105, 116]⟩ : ByteArray), (⟨#[116, 114, 97, 112]⟩ : ByteArray), (⟨#[115, 107, 105, 112]⟩ : ByteArray), (⟨#[105, 100, 108, 101]⟩ : ByteArray), (⟨#[112, 114, 111, 98, 101]⟩ : ByteArray), (⟨#[114, 101, 97, 112]⟩ : ByteArray), (⟨#[115, 112, 101, 110, 116]⟩ : ByteArray)] : List ByteArray) : List ByteArray)).bind fun y160 => (if a0 < 1 then (some (⟨#[]⟩ : ByteArray)) else (if a0 > (y160.length : Int) then (some (⟨#[]⟩ : ByteArray)) else (if 0 ≤ (wrap64 (a0 - 1)) then (if (wrap64 (a0 - 1)) < (y160.length : Int) then (some (rdOf ByteArray.empty y160 (wrap64 (a0 - 1)))) else (none)) else (none))))
set_option maxHeartbeats 8000000 in
set_option maxRecDepth 100000 in
theorem squintref18_word.calls (a0 : Int) (r : ByteArray) (w : World) (h : squintref18_word.f a0 = some r) :
    Calls Tryd.prog 26 #[.int .i64 a0] w fun e w' => e = .returned (.string r) ∧ Below w.heap.size w w' := by
  have HB := Aside0.mk (Below.refl w.heap.size w)
  have H : ((some (([(⟨#[98, 111, 114, 110]⟩ : ByteArray), (⟨#[109, 101, 101, 116]⟩ : ByteArray), (⟨#[105, 110]⟩ : ByteArray), (⟨#[111, 117, 116]⟩ : ByteArray), (⟨#[101, 120, 105, 116]⟩ : ByteArray), (⟨#[116, 114, 97, 112]⟩ : ByteArray), (⟨#[115, 107, 105, 112]⟩ : ByteArray), (⟨#[105, 100, 108, 101]⟩ : ByteArray), (⟨#[112, 114, 111, 98, 101]⟩ : ByteArray), (⟨#[114, 101, 97, 112]⟩ : ByteArray), (⟨#[115, 112, 101, 110, 116]⟩ : ByteArray)] : List ByteArray) : List ByteArray)).bind fun y160 => (if a0 < 1 then (some (⟨#[]⟩ : ByteArray)) else (if a0 > (y160.length : Int) then (some (⟨#[]⟩ : ByteArray)) else (if 0 ≤ (wrap64 (a0 - 1)) then (if (wrap64 (a0 - 1)) < (y160.length : Int) then (some (rdOf ByteArray.empty y160 (wrap64 (a0 - 1)))) else (none)) else (none))))) = some r := h
  clear h
  obtain ⟨y160, hy160⟩ : ∃ y_ : List ByteArray, y_ = (([(⟨#[98, 111, 114, 110]⟩ : ByteArray), (⟨#[109, 101, 101, 116]⟩ : ByteArray), (⟨#[105, 110]⟩ : ByteArray), (⟨#[111, 117, 116]⟩ : ByteArray), (⟨#[101, 120, 105, 116]⟩ : ByteArray), (⟨#[116, 114, 97, 112]⟩ : ByteArray), (⟨#[115, 107, 105, 112]⟩ : ByteArray), (⟨#[105, 100, 108, 101]⟩ : ByteArray), (⟨#[112, 114, 111, 98, 101]⟩ : ByteArray), (⟨#[114, 101, 97, 112]⟩ : ByteArray), (⟨#[115, 112, 101, 110, 116]⟩ : ByteArray)] : List ByteArray)) := ⟨_, rfl⟩
  replace H : (if a0 < 1 then (some (⟨#[]⟩ : ByteArray)) else (if a0 > (y160.length : Int) then (some (⟨#[]⟩ : ByteArray)) else (if 0 ≤ (wrap64 (a0 - 1)) then (if (wrap64 (a0 - 1)) < (y160.length : Int) then (some (rdOf ByteArray.empty y160 (wrap64 (a0 - 1)))) else (none)) else (none)))) = some r := by first | (rw [hy160]; with_reducible exact H) | (have H2_ := (Option.bind_some _ _).symm.trans H; rw [hy160]; with_reducible exact H2_) | (have H2_ := (Option.bind_some _ _).symm.trans H; with_reducible exact H2_) | with_reducible exact H | (rw [hy160]; exact H) | exact H
  have Ny160 := Aside0.mk hy160
  clear hy160
  by_cases c2 : a0 < 1
  · rw [if_pos c2] at H
    have c2b0 : decide (a0 < 1) = true := decide_eq_true c2
    clear c2
    obtain rfl := Option.some.inj H
    go_enter Tryd.func26, Tryd.ntmps26
    go_wp2_with (first | ((with_reducible refine gate_dst (N := 4) rfl ?_); (try (refine gate_guard (by rfl) ?_; dsimp only)); refine Kd.R_lit Kd.string _ 9 ?hg (N := 4) ?hd (xs := ([(⟨#[98, 111, 114, 110]⟩ : ByteArray), (⟨#[109, 101, 101, 116]⟩ : ByteArray), (⟨#[105, 110]⟩ : ByteArray), (⟨#[111, 117, 116]⟩ : ByteArray), (⟨#[101, 120, 105, 116]⟩ : ByteArray), (⟨#[116, 114, 97, 112]⟩ : ByteArray), (⟨#[115, 107, 105, 112]⟩ : ByteArray), (⟨#[105, 100, 108, 101]⟩ : ByteArray), (⟨#[112, 114, 111, 98, 101]⟩ : ByteArray), (⟨#[114, 101, 97, 112]⟩ : ByteArray), (⟨#[115, 112, 101, 110, 116]⟩ : ByteArray)] : List ByteArray)) (inner := [.string (⟨#[98, 111, 114, 110]⟩ : ByteArray), .string (⟨#[109, 101, 101, 116]⟩ : ByteArray), .string (⟨#[105, 110]⟩ : ByteArray), .string (⟨#[111, 117, 116]⟩ : ByteArray), .string (⟨#[101, 120, 105, 116]⟩ : ByteArray), .string (⟨#[116, 114, 97, 112]⟩ : ByteArray), .string (⟨#[115, 107, 105, 112]⟩ : ByteArray), .string (⟨#[105, 100, 108, 101]⟩ : ByteArray), .string (⟨#[112, 114, 111, 98, 101]⟩ : ByteArray), .string (⟨#[114, 101, 97, 112]⟩ : ByteArray), .string (⟨#[115, 112, 101, 110, 116]⟩ : ByteArray)]) (ok := fun _ => True) (okp := fun _ => True) ?hr ?hp (fun _ hk => hk) trivial (Below.refl _ _) (Nat.le_refl _) (by simp) ?_; (case hd => rfl); (case hg => rfl); (case hr => first | (go_simp; done) | (go_simp; rfl)); (case hp => exact (Reps.one (show Kd.M Kd.string _ _ _ (⟨#[98, 111, 114, 110]⟩ : ByteArray) [.string (⟨#[98, 111, 114, 110]⟩ : ByteArray)] from rfl) (Reps.one (show Kd.M Kd.string _ _ _ (⟨#[109, 101, 101, 116]⟩ : ByteArray) [.string (⟨#[109, 101, 101, 116]⟩ : ByteArray)] from rfl) (Reps.one (show Kd.M Kd.string _ _ _ (⟨#[105, 110]⟩ : ByteArray) [.string (⟨#[105, 110]⟩ : ByteArray)] from rfl) (Reps.one (show Kd.M Kd.string _ _ _ (⟨#[111, 117, 116]⟩ : ByteArray) [.string (⟨#[111, 117, 116]⟩ : ByteArray)] from rfl) (Reps.one (show Kd.M Kd.string _ _ _ (⟨#[101, 120, 105, 116]⟩ : ByteArray) [.string (⟨#[101, 120, 105, 116]⟩ : ByteArray)] from rfl) (Reps.one (show Kd.M Kd.string _ _ _ (⟨#[116, 114, 97, 112]⟩ : ByteArray) [.string (⟨#[116, 114, 97, 112]⟩ : ByteArray)] from rfl) (Reps.one (show Kd.M Kd.string _ _ _ (⟨#[115, 107, 105, 112]⟩ : ByteArray) [.string (⟨#[115, 107, 105, 112]⟩ : ByteArray)] from rfl) (Reps.one (show Kd.M Kd.string _ _ _ (⟨#[105, 100, 108, 101]⟩ : ByteArray) [.string (⟨#[105, 100, 108, 101]⟩ : ByteArray)] from rfl) (Reps.one (show Kd.M Kd.string _ _ _ (⟨#[112, 114, 111, 98, 101]⟩ : ByteArray) [.string (⟨#[112, 114, 111, 98, 101]⟩ : ByteArray)] from rfl) (Reps.one (show Kd.M Kd.string _ _ _ (⟨#[114, 101, 97, 112]⟩ : ByteArray) [.string (⟨#[114, 101, 97, 112]⟩ : ByteArray)] from rfl) (Reps.one (show Kd.M Kd.string _ _ _ (⟨#[115, 112, 101, 110, 116]⟩ : ByteArray) [.string (⟨#[115, 112, 101, 110, 116]⟩ : ByteArray)] from rfl) (Reps.none _ _))))))))))))); intro v161 w3 ho4 hb hg_ hnew_; clear hg_ hnew_; (first | rw [← Ny160.out] at ho4 | (simp only [Int.reduceToNat] at ho4; rw [← Ny160.out] at ho4)); have n0_ := Aside0.mk (Kd.R_lower ho4 (below_size (by repeat (first | (with_reducible first | exact HB.out | apply below_alloc | apply pw_below_drewN | apply below_drew1) | exact HB.out)))); have n1_ := Aside0.mk (below_step (by repeat (first | (with_reducible first | exact HB.out | apply below_alloc | apply pw_below_drewN | apply below_drew1) | exact HB.out)) hb); clear HB; have HO162 := n0_; have HB := n1_; clear n0_ n1_; clear hb ho4))
    go_ret
    exact ⟨by first | rfl | (simp [errW_none, errW_some] <;> rfl) | (simp [*, errW_none, errW_some] <;> rfl), by repeat (first | (with_reducible first | exact HB.out | apply below_alloc | apply pw_below_drewN | apply below_drew1) | exact HB.out)⟩
  · rw [if_neg c2] at H
    have c2b0 : decide (a0 < 1) = false := decide_eq_false c2
    clear c2
    by_cases c5 : a0 > (y160.length : Int)
    · rw [if_pos c5] at H
      have c5b0 : decide ((y160.length : Int) < a0) = true := decide_eq_true c5
      clear c5
      obtain rfl := Option.some.inj H
      go_enter Tryd.func26, Tryd.ntmps26
      go_wp2_with (first | ((with_reducible refine gate_dst (N := 4) rfl ?_); (try (refine gate_guard (by rfl) ?_; dsimp only)); refine Kd.R_lit Kd.string _ 9 ?hg (N := 4) ?hd (xs := ([(⟨#[98, 111, 114, 110]⟩ : ByteArray), (⟨#[109, 101, 101, 116]⟩ : ByteArray), (⟨#[105, 110]⟩ : ByteArray), (⟨#[111, 117, 116]⟩ : ByteArray), (⟨#[101, 120, 105, 116]⟩ : ByteArray), (⟨#[116, 114, 97, 112]⟩ : ByteArray), (⟨#[115, 107, 105, 112]⟩ : ByteArray), (⟨#[105, 100, 108, 101]⟩ : ByteArray), (⟨#[112, 114, 111, 98, 101]⟩ : ByteArray), (⟨#[114, 101, 97, 112]⟩ : ByteArray), (⟨#[115, 112, 101, 110, 116]⟩ : ByteArray)] : List ByteArray)) (inner := [.string (⟨#[98, 111, 114, 110]⟩ : ByteArray), .string (⟨#[109, 101, 101, 116]⟩ : ByteArray), .string (⟨#[105, 110]⟩ : ByteArray), .string (⟨#[111, 117, 116]⟩ : ByteArray), .string (⟨#[101, 120, 105, 116]⟩ : ByteArray), .string (⟨#[116, 114, 97, 112]⟩ : ByteArray), .string (⟨#[115, 107, 105, 112]⟩ : ByteArray), .string (⟨#[105, 100, 108, 101]⟩ : ByteArray), .string (⟨#[112, 114, 111, 98, 101]⟩ : ByteArray), .string (⟨#[114, 101, 97, 112]⟩ : ByteArray), .string (⟨#[115, 112, 101, 110, 116]⟩ : ByteArray)]) (ok := fun _ => True) (okp := fun _ => True) ?hr ?hp (fun _ hk => hk) trivial (Below.refl _ _) (Nat.le_refl _) (by simp) ?_; (case hd => rfl); (case hg => rfl); (case hr => first | (go_simp; done) | (go_simp; rfl)); (case hp => exact (Reps.one (show Kd.M Kd.string _ _ _ (⟨#[98, 111, 114, 110]⟩ : ByteArray) [.string (⟨#[98, 111, 114, 110]⟩ : ByteArray)] from rfl) (Reps.one (show Kd.M Kd.string _ _ _ (⟨#[109, 101, 101, 116]⟩ : ByteArray) [.string (⟨#[109, 101, 101, 116]⟩ : ByteArray)] from rfl) (Reps.one (show Kd.M Kd.string _ _ _ (⟨#[105, 110]⟩ : ByteArray) [.string (⟨#[105, 110]⟩ : ByteArray)] from rfl) (Reps.one (show Kd.M Kd.string _ _ _ (⟨#[111, 117, 116]⟩ : ByteArray) [.string (⟨#[111, 117, 116]⟩ : ByteArray)] from rfl) (Reps.one (show Kd.M Kd.string _ _ _ (⟨#[101, 120, 105, 116]⟩ : ByteArray) [.string (⟨#[101, 120, 105, 116]⟩ : ByteArray)] from rfl) (Reps.one (show Kd.M Kd.string _ _ _ (⟨#[116, 114, 97, 112]⟩ : ByteArray) [.string (⟨#[116, 114, 97, 112]⟩ : ByteArray)] from rfl) (Reps.one (show Kd.M Kd.string _ _ _ (⟨#[115, 107, 105, 112]⟩ : ByteArray) [.string (⟨#[115, 107, 105, 112]⟩ : ByteArray)] from rfl) (Reps.one (show Kd.M Kd.string _ _ _ (⟨#[105, 100, 108, 101]⟩ : ByteArray) [.string (⟨#[105, 100, 108, 101]⟩ : ByteArray)] from rfl) (Reps.one (show Kd.M Kd.string _ _ _ (⟨#[112, 114, 111, 98, 101]⟩ : ByteArray) [.string (⟨#[112, 114, 111, 98, 101]⟩ : ByteArray)] from rfl) (Reps.one (show Kd.M Kd.string _ _ _ (⟨#[114, 101, 97, 112]⟩ : ByteArray) [.string (⟨#[114, 101, 97, 112]⟩ : ByteArray)] from rfl) (Reps.one (show Kd.M Kd.string _ _ _ (⟨#[115, 112, 101, 110, 116]⟩ : ByteArray) [.string (⟨#[115, 112, 101, 110, 116]⟩ : ByteArray)] from rfl) (Reps.none _ _))))))))))))); intro v161 w6 ho7 hb hg_ hnew_; clear hg_ hnew_; (first | rw [← Ny160.out] at ho7 | (simp only [Int.reduceToNat] at ho7; rw [← Ny160.out] at ho7)); have n0_ := Aside0.mk (Kd.R_lower ho7 (below_size (by repeat (first | (with_reducible first | exact HB.out | apply below_alloc | apply pw_below_drewN | apply below_drew1) | exact HB.out)))); have n1_ := Aside0.mk (below_step (by repeat (first | (with_reducible first | exact HB.out | apply below_alloc | apply pw_below_drewN | apply below_drew1) | exact HB.out)) hb); clear HB; have HO162 := n0_; have HB := n1_; clear n0_ n1_; clear hb ho7; obtain ⟨Ao8, co8, eo8⟩ := Kd.R_slice HO162.out; subst eo8))
      go_ret
      exact ⟨by first | rfl | (simp [errW_none, errW_some] <;> rfl) | (simp [*, errW_none, errW_some] <;> rfl), by repeat (first | (with_reducible first | exact HB.out | apply below_alloc | apply pw_below_drewN | apply below_drew1) | exact HB.out)⟩
    · rw [if_neg c5] at H
      have c5b0 : decide ((y160.length : Int) < a0) = false := decide_eq_false c5
      clear c5
      obtain ⟨ji9, hji9⟩ : ∃ j_ : Int, (wrap64 (a0 - 1)) = j_ := ⟨_, rfl⟩
      replace H : (if 0 ≤ (ji9) then (if (ji9) < (y160.length : Int) then (some (rdOf ByteArray.empty y160 (ji9))) else (none)) else (none)) = some r := by first | (rw [hji9] at H; exact H) | (simp only [hji9] at H ⊢; exact H)
      have hji9w : (IntKind.i64.wrap (a0 - 1)) = ji9 := (i64_w _).trans hji9
      by_cases c10 : 0 ≤ (ji9)
      · rw [if_pos c10] at H
        have c10b0 : decide (0 ≤ (ji9)) = true := decide_eq_true c10
        clear c10
        by_cases c11 : (ji9) < (y160.length : Int)
        · rw [if_pos c11] at H
          have c11b0 : decide ((ji9) < (y160.length : Int)) = true := decide_eq_true c11
          clear c11
          obtain rfl := Option.some.inj H
          go_enter Tryd.func26, Tryd.ntmps26
          go_wp2_with (first | ((with_reducible refine gate_dst (N := 4) rfl ?_); (try (refine gate_guard (by rfl) ?_; dsimp only)); refine Kd.R_lit Kd.string _ 9 ?hg (N := 4) ?hd (xs := ([(⟨#[98, 111, 114, 110]⟩ : ByteArray), (⟨#[109, 101, 101, 116]⟩ : ByteArray), (⟨#[105, 110]⟩ : ByteArray), (⟨#[111, 117, 116]⟩ : ByteArray), (⟨#[101, 120, 105, 116]⟩ : ByteArray), (⟨#[116, 114, 97, 112]⟩ : ByteArray), (⟨#[115, 107, 105, 112]⟩ : ByteArray), (⟨#[105, 100, 108, 101]⟩ : ByteArray), (⟨#[112, 114, 111, 98, 101]⟩ : ByteArray), (⟨#[114, 101, 97, 112]⟩ : ByteArray), (⟨#[115, 112, 101, 110, 116]⟩ : ByteArray)] : List ByteArray)) (inner := [.string (⟨#[98, 111, 114, 110]⟩ : ByteArray), .string (⟨#[109, 101, 101, 116]⟩ : ByteArray), .string (⟨#[105, 110]⟩ : ByteArray), .string (⟨#[111, 117, 116]⟩ : ByteArray), .string (⟨#[101, 120, 105, 116]⟩ : ByteArray), .string (⟨#[116, 114, 97, 112]⟩ : ByteArray), .string (⟨#[115, 107, 105, 112]⟩ : ByteArray), .string (⟨#[105, 100, 108, 101]⟩ : ByteArray), .string (⟨#[112, 114, 111, 98, 101]⟩ : ByteArray), .string (⟨#[114, 101, 97, 112]⟩ : ByteArray), .string (⟨#[115, 112, 101, 110, 116]⟩ : ByteArray)]) (ok := fun _ => True) (okp := fun _ => True) ?hr ?hp (fun _ hk => hk) trivial (Below.refl _ _) (Nat.le_refl _) (by simp) ?_; (case hd => rfl); (case hg => rfl); (case hr => first | (go_simp; done) | (go_simp; rfl)); (case hp => exact (Reps.one (show Kd.M Kd.string _ _ _ (⟨#[98, 111, 114, 110]⟩ : ByteArray) [.string (⟨#[98, 111, 114, 110]⟩ : ByteArray)] from rfl) (Reps.one (show Kd.M Kd.string _ _ _ (⟨#[109, 101, 101, 116]⟩ : ByteArray) [.string (⟨#[109, 101, 101, 116]⟩ : ByteArray)] from rfl) (Reps.one (show Kd.M Kd.string _ _ _ (⟨#[105, 110]⟩ : ByteArray) [.string (⟨#[105, 110]⟩ : ByteArray)] from rfl) (Reps.one (show Kd.M Kd.string _ _ _ (⟨#[111, 117, 116]⟩ : ByteArray) [.string (⟨#[111, 117, 116]⟩ : ByteArray)] from rfl) (Reps.one (show Kd.M Kd.string _ _ _ (⟨#[101, 120, 105, 116]⟩ : ByteArray) [.string (⟨#[101, 120, 105, 116]⟩ : ByteArray)] from rfl) (Reps.one (show Kd.M Kd.string _ _ _ (⟨#[116, 114, 97, 112]⟩ : ByteArray) [.string (⟨#[116, 114, 97, 112]⟩ : ByteArray)] from rfl) (Reps.one (show Kd.M Kd.string _ _ _ (⟨#[115, 107, 105, 112]⟩ : ByteArray) [.string (⟨#[115, 107, 105, 112]⟩ : ByteArray)] from rfl) (Reps.one (show Kd.M Kd.string _ _ _ (⟨#[105, 100, 108, 101]⟩ : ByteArray) [.string (⟨#[105, 100, 108, 101]⟩ : ByteArray)] from rfl) (Reps.one (show Kd.M Kd.string _ _ _ (⟨#[112, 114, 111, 98, 101]⟩ : ByteArray) [.string (⟨#[112, 114, 111, 98, 101]⟩ : ByteArray)] from rfl) (Reps.one (show Kd.M Kd.string _ _ _ (⟨#[114, 101, 97, 112]⟩ : ByteArray) [.string (⟨#[114, 101, 97, 112]⟩ : ByteArray)] from rfl) (Reps.one (show Kd.M Kd.string _ _ _ (⟨#[115, 112, 101, 110, 116]⟩ : ByteArray) [.string (⟨#[115, 112, 101, 110, 116]⟩ : ByteArray)] from rfl) (Reps.none _ _))))))))))))); intro v161 w12 ho13 hb hg_ hnew_; clear hg_ hnew_; (first | rw [← Ny160.out] at ho13 | (simp only [Int.reduceToNat] at ho13; rw [← Ny160.out] at ho13)); have n0_ := Aside0.mk (Kd.R_lower ho13 (below_size (by repeat (first | (with_reducible first | exact HB.out | apply below_alloc | apply pw_below_drewN | apply below_drew1) | exact HB.out)))); have n1_ := Aside0.mk (below_step (by repeat (first | (with_reducible first | exact HB.out | apply below_alloc | apply pw_below_drewN | apply below_drew1) | exact HB.out)) hb); clear HB; have HO162 := n0_; have HB := n1_; clear n0_ n1_; clear hb ho13; obtain ⟨Ao14, co14, eo14⟩ := Kd.R_slice HO162.out; subst eo14; have p163 : 0 ≤ ((ji9) : Int) := of_decide_eq_true (by first | (with_reducible assumption) | assumption); have q163 : (ji9) < (y160.length : Int) := of_decide_eq_true (by first | (with_reducible assumption) | assumption); obtain ⟨ad163, e163, hx163_0⟩ := Kd.at_string (Kd.R_reads' HO162.out).2.2 (ji9) p163 q163; cases e163; replace p163 := eq_true p163; replace q163 := eq_true q163))
          go_ret
          exact ⟨by first | rfl | (simp [errW_none, errW_some] <;> rfl) | (simp only [← hji9]; first | rfl | (simp [errW_none, errW_some] <;> rfl)) | (simp [*, errW_none, errW_some] <;> rfl), by repeat (first | (with_reducible first | exact HB.out | apply below_alloc | apply pw_below_drewN | apply below_drew1) | exact HB.out)⟩
        · rw [if_neg c11] at H
          exact absurd H (by simp)
      · rw [if_neg c10] at H
        exact absurd H (by simp)
def squintref18_shape.f (a0 : Int) : Option (ByteArray) := (some (([(⟨#[80, 81]⟩ : ByteArray), (⟨#[80, 73, 81, 74, 67]⟩ : ByteArray), (⟨#[81, 74, 78]⟩ : ByteArray), (⟨#[80, 73, 78]⟩ : ByteArray), (⟨#[80]⟩ : ByteArray), (⟨#[80, 84]⟩ : ByteArray), (⟨#[]⟩ : ByteArray), (⟨#[]⟩ : ByteArray), (⟨#[76]⟩ : ByteArray), (⟨#[80]⟩ : ByteArray), (⟨#[80, 83]⟩ : ByteArray)] : List ByteArray) : List ByteArray)).bind fun y164 => (if 0 ≤ (wrap64 (a0 - 1)) then (if (wrap64 (a0 - 1)) < (y164.length : Int) then (some (rdOf ByteArray.empty y164 (wrap64 (a0 - 1)))) else (none)) else (none))
set_option maxHeartbeats 8000000 in
set_option maxRecDepth 100000 in
theorem squintref18_shape.calls (a0 : Int) (r : ByteArray) (w : World) (h : squintref18_shape.f a0 = some r) :
    Calls Tryd.prog 27 #[.int .i64 a0] w fun e w' => e = .returned (.string r) ∧ Below w.heap.size w w' := by
  have HB := Aside0.mk (Below.refl w.heap.size w)
  have H : ((some (([(⟨#[80, 81]⟩ : ByteArray), (⟨#[80, 73, 81, 74, 67]⟩ : ByteArray), (⟨#[81, 74, 78]⟩ : ByteArray), (⟨#[80, 73, 78]⟩ : ByteArray), (⟨#[80]⟩ : ByteArray), (⟨#[80, 84]⟩ : ByteArray), (⟨#[]⟩ : ByteArray), (⟨#[]⟩ : ByteArray), (⟨#[76]⟩ : ByteArray), (⟨#[80]⟩ : ByteArray), (⟨#[80, 83]⟩ : ByteArray)] : List ByteArray) : List ByteArray)).bind fun y164 => (if 0 ≤ (wrap64 (a0 - 1)) then (if (wrap64 (a0 - 1)) < (y164.length : Int) then (some (rdOf ByteArray.empty y164 (wrap64 (a0 - 1)))) else (none)) else (none))) = some r := h
  clear h
  obtain ⟨y164, hy164⟩ : ∃ y_ : List ByteArray, y_ = (([(⟨#[80, 81]⟩ : ByteArray), (⟨#[80, 73, 81, 74, 67]⟩ : ByteArray), (⟨#[81, 74, 78]⟩ : ByteArray), (⟨#[80, 73, 78]⟩ : ByteArray), (⟨#[80]⟩ : ByteArray), (⟨#[80, 84]⟩ : ByteArray), (⟨#[]⟩ : ByteArray), (⟨#[]⟩ : ByteArray), (⟨#[76]⟩ : ByteArray), (⟨#[80]⟩ : ByteArray), (⟨#[80, 83]⟩ : ByteArray)] : List ByteArray)) := ⟨_, rfl⟩
  replace H : (if 0 ≤ (wrap64 (a0 - 1)) then (if (wrap64 (a0 - 1)) < (y164.length : Int) then (some (rdOf ByteArray.empty y164 (wrap64 (a0 - 1)))) else (none)) else (none)) = some r := by first | (rw [hy164]; with_reducible exact H) | (have H2_ := (Option.bind_some _ _).symm.trans H; rw [hy164]; with_reducible exact H2_) | (have H2_ := (Option.bind_some _ _).symm.trans H; with_reducible exact H2_) | with_reducible exact H | (rw [hy164]; exact H) | exact H
  have Ny164 := Aside0.mk hy164
  clear hy164
  obtain ⟨ji2, hji2⟩ : ∃ j_ : Int, (wrap64 (a0 - 1)) = j_ := ⟨_, rfl⟩
  replace H : (if 0 ≤ (ji2) then (if (ji2) < (y164.length : Int) then (some (rdOf ByteArray.empty y164 (ji2))) else (none)) else (none)) = some r := by first | (rw [hji2] at H; exact H) | (simp only [hji2] at H ⊢; exact H)
  have hji2w : (IntKind.i64.wrap (a0 - 1)) = ji2 := (i64_w _).trans hji2
  by_cases c3 : 0 ≤ (ji2)
  · rw [if_pos c3] at H
    have c3b0 : decide (0 ≤ (ji2)) = true := decide_eq_true c3
    clear c3
    by_cases c4 : (ji2) < (y164.length : Int)
    · rw [if_pos c4] at H
      have c4b0 : decide ((ji2) < (y164.length : Int)) = true := decide_eq_true c4
      clear c4
      obtain rfl := Option.some.inj H
      go_enter Tryd.func27, Tryd.ntmps27
      go_wp2_with (first | ((with_reducible refine gate_dst (N := 4) rfl ?_); refine Kd.R_lit Kd.string _ 9 ?hg (N := 4) ?hd (xs := ([(⟨#[80, 81]⟩ : ByteArray), (⟨#[80, 73, 81, 74, 67]⟩ : ByteArray), (⟨#[81, 74, 78]⟩ : ByteArray), (⟨#[80, 73, 78]⟩ : ByteArray), (⟨#[80]⟩ : ByteArray), (⟨#[80, 84]⟩ : ByteArray), (⟨#[]⟩ : ByteArray), (⟨#[]⟩ : ByteArray), (⟨#[76]⟩ : ByteArray), (⟨#[80]⟩ : ByteArray), (⟨#[80, 83]⟩ : ByteArray)] : List ByteArray)) (inner := [.string (⟨#[80, 81]⟩ : ByteArray), .string (⟨#[80, 73, 81, 74, 67]⟩ : ByteArray), .string (⟨#[81, 74, 78]⟩ : ByteArray), .string (⟨#[80, 73, 78]⟩ : ByteArray), .string (⟨#[80]⟩ : ByteArray), .string (⟨#[80, 84]⟩ : ByteArray), .string (⟨#[]⟩ : ByteArray), .string (⟨#[]⟩ : ByteArray), .string (⟨#[76]⟩ : ByteArray), .string (⟨#[80]⟩ : ByteArray), .string (⟨#[80, 83]⟩ : ByteArray)]) (ok := fun _ => True) (okp := fun _ => True) ?hr ?hp (fun _ hk => hk) trivial (Below.refl _ _) (Nat.le_refl _) (by simp) ?_; (case hd => rfl); (case hg => rfl); (case hr => first | (go_simp; done) | (go_simp; rfl)); (case hp => exact (Reps.one (show Kd.M Kd.string _ _ _ (⟨#[80, 81]⟩ : ByteArray) [.string (⟨#[80, 81]⟩ : ByteArray)] from rfl) (Reps.one (show Kd.M Kd.string _ _ _ (⟨#[80, 73, 81, 74, 67]⟩ : ByteArray) [.string (⟨#[80, 73, 81, 74, 67]⟩ : ByteArray)] from rfl) (Reps.one (show Kd.M Kd.string _ _ _ (⟨#[81, 74, 78]⟩ : ByteArray) [.string (⟨#[81, 74, 78]⟩ : ByteArray)] from rfl) (Reps.one (show Kd.M Kd.string _ _ _ (⟨#[80, 73, 78]⟩ : ByteArray) [.string (⟨#[80, 73, 78]⟩ : ByteArray)] from rfl) (Reps.one (show Kd.M Kd.string _ _ _ (⟨#[80]⟩ : ByteArray) [.string (⟨#[80]⟩ : ByteArray)] from rfl) (Reps.one (show Kd.M Kd.string _ _ _ (⟨#[80, 84]⟩ : ByteArray) [.string (⟨#[80, 84]⟩ : ByteArray)] from rfl) (Reps.one (show Kd.M Kd.string _ _ _ (⟨#[]⟩ : ByteArray) [.string (⟨#[]⟩ : ByteArray)] from rfl) (Reps.one (show Kd.M Kd.string _ _ _ (⟨#[]⟩ : ByteArray) [.string (⟨#[]⟩ : ByteArray)] from rfl) (Reps.one (show Kd.M Kd.string _ _ _ (⟨#[76]⟩ : ByteArray) [.string (⟨#[76]⟩ : ByteArray)] from rfl) (Reps.one (show Kd.M Kd.string _ _ _ (⟨#[80]⟩ : ByteArray) [.string (⟨#[80]⟩ : ByteArray)] from rfl) (Reps.one (show Kd.M Kd.string _ _ _ (⟨#[80, 83]⟩ : ByteArray) [.string (⟨#[80, 83]⟩ : ByteArray)] from rfl) (Reps.none _ _))))))))))))); intro v165 w5 ho6 hb hg_ hnew_; clear hg_ hnew_; (first | rw [← Ny164.out] at ho6 | (simp only [Int.reduceToNat] at ho6; rw [← Ny164.out] at ho6)); have n0_ := Aside0.mk (Kd.R_lower ho6 (below_size (by repeat (first | (with_reducible first | exact HB.out | apply below_alloc | apply pw_below_drewN | apply below_drew1) | exact HB.out)))); have n1_ := Aside0.mk (below_step (by repeat (first | (with_reducible first | exact HB.out | apply below_alloc | apply pw_below_drewN | apply below_drew1) | exact HB.out)) hb); clear HB; have HO166 := n0_; have HB := n1_; clear n0_ n1_; clear hb ho6; obtain ⟨Ao7, co7, eo7⟩ := Kd.R_slice HO166.out; subst eo7; have p167 : 0 ≤ ((ji2) : Int) := of_decide_eq_true (by first | (with_reducible assumption) | assumption); have q167 : (ji2) < (y164.length : Int) := of_decide_eq_true (by first | (with_reducible assumption) | assumption); obtain ⟨ad167, e167, hx167_0⟩ := Kd.at_string (Kd.R_reads' HO166.out).2.2 (ji2) p167 q167; cases e167; replace p167 := eq_true p167; replace q167 := eq_true q167))
      go_ret
      exact ⟨by first | rfl | (simp [errW_none, errW_some] <;> rfl) | (simp only [← hji2]; first | rfl | (simp [errW_none, errW_some] <;> rfl)) | (simp [*, errW_none, errW_some] <;> rfl), by repeat (first | (with_reducible first | exact HB.out | apply below_alloc | apply pw_below_drewN | apply below_drew1) | exact HB.out)⟩
    · rw [if_neg c4] at H
      exact absurd H (by simp)
  · rw [if_neg c3] at H
    exact absurd H (by simp)
def squintref18_traps.f  : Option (List ByteArray) := some (([(⟨#[100, 105, 118, 105, 100, 101]⟩ : ByteArray), (⟨#[105, 110, 100, 101, 120]⟩ : ByteArray), (⟨#[102, 105, 108, 108]⟩ : ByteArray), (⟨#[110, 105, 108]⟩ : ByteArray), (⟨#[119, 114, 111, 110, 103]⟩ : ByteArray)] : List ByteArray))
set_option maxHeartbeats 8000000 in
set_option maxRecDepth 100000 in
theorem squintref18_traps.calls  (r : List ByteArray) (w : World) (h : squintref18_traps.f  = some r) :
    Calls Tryd.prog 29 #[] w fun e w' => ∃ v0_ : Value, e = .returned (v0_) ∧ Kd.R Kd.string 9 w' w.heap.size (fun _ => True) v0_ r ∧ Below w.heap.size w w' := by
  have HB := Aside0.mk (Below.refl w.heap.size w)
  have H : (some (([(⟨#[100, 105, 118, 105, 100, 101]⟩ : ByteArray), (⟨#[105, 110, 100, 101, 120]⟩ : ByteArray), (⟨#[102, 105, 108, 108]⟩ : ByteArray), (⟨#[110, 105, 108]⟩ : ByteArray), (⟨#[119, 114, 111, 110, 103]⟩ : ByteArray)] : List ByteArray))) = some r := h
  clear h
  obtain ⟨y168, hy168⟩ : ∃ y_ : List ByteArray, y_ = (([(⟨#[100, 105, 118, 105, 100, 101]⟩ : ByteArray), (⟨#[105, 110, 100, 101, 120]⟩ : ByteArray), (⟨#[102, 105, 108, 108]⟩ : ByteArray), (⟨#[110, 105, 108]⟩ : ByteArray), (⟨#[119, 114, 111, 110, 103]⟩ : ByteArray)] : List ByteArray)) := ⟨_, rfl⟩
  replace H : (some y168) = some r := by first | (rw [hy168]; with_reducible exact H) | (have H2_ := (Option.bind_some _ _).symm.trans H; rw [hy168]; with_reducible exact H2_) | (have H2_ := (Option.bind_some _ _).symm.trans H; with_reducible exact H2_) | with_reducible exact H | (rw [hy168]; exact H) | exact H
  have Ny168 := Aside0.mk hy168
  clear hy168
  obtain rfl := Option.some.inj H
  go_enter Tryd.func29, Tryd.ntmps29
  go_wp2_with (first | ((with_reducible refine gate_dst (N := 1) rfl ?_); refine Kd.R_lit Kd.string _ 9 ?hg (N := 1) ?hd (xs := ([(⟨#[100, 105, 118, 105, 100, 101]⟩ : ByteArray), (⟨#[105, 110, 100, 101, 120]⟩ : ByteArray), (⟨#[102, 105, 108, 108]⟩ : ByteArray), (⟨#[110, 105, 108]⟩ : ByteArray), (⟨#[119, 114, 111, 110, 103]⟩ : ByteArray)] : List ByteArray)) (inner := [.string (⟨#[100, 105, 118, 105, 100, 101]⟩ : ByteArray), .string (⟨#[105, 110, 100, 101, 120]⟩ : ByteArray), .string (⟨#[102, 105, 108, 108]⟩ : ByteArray), .string (⟨#[110, 105, 108]⟩ : ByteArray), .string (⟨#[119, 114, 111, 110, 103]⟩ : ByteArray)]) (ok := fun _ => True) (okp := fun _ => True) ?hr ?hp (fun _ hk => hk) trivial (Below.refl _ _) (Nat.le_refl _) (by simp) ?_; (case hd => rfl); (case hg => rfl); (case hr => first | (go_simp; done) | (go_simp; rfl)); (case hp => exact (Reps.one (show Kd.M Kd.string _ _ _ (⟨#[100, 105, 118, 105, 100, 101]⟩ : ByteArray) [.string (⟨#[100, 105, 118, 105, 100, 101]⟩ : ByteArray)] from rfl) (Reps.one (show Kd.M Kd.string _ _ _ (⟨#[105, 110, 100, 101, 120]⟩ : ByteArray) [.string (⟨#[105, 110, 100, 101, 120]⟩ : ByteArray)] from rfl) (Reps.one (show Kd.M Kd.string _ _ _ (⟨#[102, 105, 108, 108]⟩ : ByteArray) [.string (⟨#[102, 105, 108, 108]⟩ : ByteArray)] from rfl) (Reps.one (show Kd.M Kd.string _ _ _ (⟨#[110, 105, 108]⟩ : ByteArray) [.string (⟨#[110, 105, 108]⟩ : ByteArray)] from rfl) (Reps.one (show Kd.M Kd.string _ _ _ (⟨#[119, 114, 111, 110, 103]⟩ : ByteArray) [.string (⟨#[119, 114, 111, 110, 103]⟩ : ByteArray)] from rfl) (Reps.none _ _))))))); intro v169 w1 ho2 hb hg_ hnew_; clear hg_ hnew_; (first | rw [← Ny168.out] at ho2 | (simp only [Int.reduceToNat] at ho2; rw [← Ny168.out] at ho2)); have n0_ := Aside0.mk (Kd.R_lower ho2 (below_size (by repeat (first | (with_reducible first | exact HB.out | apply below_alloc | apply pw_below_drewN | apply below_drew1) | exact HB.out)))); have n1_ := Aside0.mk (below_step (by repeat (first | (with_reducible first | exact HB.out | apply below_alloc | apply pw_below_drewN | apply below_drew1) | exact HB.out)) hb); clear HB; have HO170 := n0_; have HB := n1_; clear n0_ n1_; clear hb ho2))
  go_ret
  exact ⟨_, by first | rfl | (simp [errW_none, errW_some] <;> rfl) | (simp [*, errW_none, errW_some] <;> rfl), by (with_reducible repeat (first | apply Kd.R_alloc | apply Kd.R_drewN | apply Kd.R_drew)); exact HO170.out, by repeat (first | (with_reducible first | exact HB.out | apply below_alloc | apply pw_below_drewN | apply below_drew1) | exact HB.out)⟩
def squintref18_counters.f  : Option (List ByteArray) := some (([(⟨#[112, 114, 111, 99, 115]⟩ : ByteArray), (⟨#[108, 105, 118, 101]⟩ : ByteArray), (⟨#[99, 104, 97, 110, 115]⟩ : ByteArray), (⟨#[116, 105, 99, 107, 115]⟩ : ByteArray), (⟨#[99, 101, 108, 108, 115]⟩ : ByteArray), (⟨#[100, 101, 112, 116, 104]⟩ : ByteArray)] : List ByteArray))
set_option maxHeartbeats 8000000 in
set_option maxRecDepth 100000 in
theorem squintref18_counters.calls  (r : List ByteArray) (w : World) (h : squintref18_counters.f  = some r) :
    Calls Tryd.prog 30 #[] w fun e w' => ∃ v0_ : Value, e = .returned (v0_) ∧ Kd.R Kd.string 9 w' w.heap.size (fun _ => True) v0_ r ∧ Below w.heap.size w w' := by
  have HB := Aside0.mk (Below.refl w.heap.size w)
  have H : (some (([(⟨#[112, 114, 111, 99, 115]⟩ : ByteArray), (⟨#[108, 105, 118, 101]⟩ : ByteArray), (⟨#[99, 104, 97, 110, 115]⟩ : ByteArray), (⟨#[116, 105, 99, 107, 115]⟩ : ByteArray), (⟨#[99, 101, 108, 108, 115]⟩ : ByteArray), (⟨#[100, 101, 112, 116, 104]⟩ : ByteArray)] : List ByteArray))) = some r := h
  clear h
  obtain ⟨y171, hy171⟩ : ∃ y_ : List ByteArray, y_ = (([(⟨#[112, 114, 111, 99, 115]⟩ : ByteArray), (⟨#[108, 105, 118, 101]⟩ : ByteArray), (⟨#[99, 104, 97, 110, 115]⟩ : ByteArray), (⟨#[116, 105, 99, 107, 115]⟩ : ByteArray), (⟨#[99, 101, 108, 108, 115]⟩ : ByteArray), (⟨#[100, 101, 112, 116, 104]⟩ : ByteArray)] : List ByteArray)) := ⟨_, rfl⟩
  replace H : (some y171) = some r := by first | (rw [hy171]; with_reducible exact H) | (have H2_ := (Option.bind_some _ _).symm.trans H; rw [hy171]; with_reducible exact H2_) | (have H2_ := (Option.bind_some _ _).symm.trans H; with_reducible exact H2_) | with_reducible exact H | (rw [hy171]; exact H) | exact H
  have Ny171 := Aside0.mk hy171
  clear hy171
  obtain rfl := Option.some.inj H
  go_enter Tryd.func30, Tryd.ntmps30
  go_wp2_with (first | ((with_reducible refine gate_dst (N := 1) rfl ?_); refine Kd.R_lit Kd.string _ 9 ?hg (N := 1) ?hd (xs := ([(⟨#[112, 114, 111, 99, 115]⟩ : ByteArray), (⟨#[108, 105, 118, 101]⟩ : ByteArray), (⟨#[99, 104, 97, 110, 115]⟩ : ByteArray), (⟨#[116, 105, 99, 107, 115]⟩ : ByteArray), (⟨#[99, 101, 108, 108, 115]⟩ : ByteArray), (⟨#[100, 101, 112, 116, 104]⟩ : ByteArray)] : List ByteArray)) (inner := [.string (⟨#[112, 114, 111, 99, 115]⟩ : ByteArray), .string (⟨#[108, 105, 118, 101]⟩ : ByteArray), .string (⟨#[99, 104, 97, 110, 115]⟩ : ByteArray), .string (⟨#[116, 105, 99, 107, 115]⟩ : ByteArray), .string (⟨#[99, 101, 108, 108, 115]⟩ : ByteArray), .string (⟨#[100, 101, 112, 116, 104]⟩ : ByteArray)]) (ok := fun _ => True) (okp := fun _ => True) ?hr ?hp (fun _ hk => hk) trivial (Below.refl _ _) (Nat.le_refl _) (by simp) ?_; (case hd => rfl); (case hg => rfl); (case hr => first | (go_simp; done) | (go_simp; rfl)); (case hp => exact (Reps.one (show Kd.M Kd.string _ _ _ (⟨#[112, 114, 111, 99, 115]⟩ : ByteArray) [.string (⟨#[112, 114, 111, 99, 115]⟩ : ByteArray)] from rfl) (Reps.one (show Kd.M Kd.string _ _ _ (⟨#[108, 105, 118, 101]⟩ : ByteArray) [.string (⟨#[108, 105, 118, 101]⟩ : ByteArray)] from rfl) (Reps.one (show Kd.M Kd.string _ _ _ (⟨#[99, 104, 97, 110, 115]⟩ : ByteArray) [.string (⟨#[99, 104, 97, 110, 115]⟩ : ByteArray)] from rfl) (Reps.one (show Kd.M Kd.string _ _ _ (⟨#[116, 105, 99, 107, 115]⟩ : ByteArray) [.string (⟨#[116, 105, 99, 107, 115]⟩ : ByteArray)] from rfl) (Reps.one (show Kd.M Kd.string _ _ _ (⟨#[99, 101, 108, 108, 115]⟩ : ByteArray) [.string (⟨#[99, 101, 108, 108, 115]⟩ : ByteArray)] from rfl) (Reps.one (show Kd.M Kd.string _ _ _ (⟨#[100, 101, 112, 116, 104]⟩ : ByteArray) [.string (⟨#[100, 101, 112, 116, 104]⟩ : ByteArray)] from rfl) (Reps.none _ _)))))))); intro v172 w1 ho2 hb hg_ hnew_; clear hg_ hnew_; (first | rw [← Ny171.out] at ho2 | (simp only [Int.reduceToNat] at ho2; rw [← Ny171.out] at ho2)); have n0_ := Aside0.mk (Kd.R_lower ho2 (below_size (by repeat (first | (with_reducible first | exact HB.out | apply below_alloc | apply pw_below_drewN | apply below_drew1) | exact HB.out)))); have n1_ := Aside0.mk (below_step (by repeat (first | (with_reducible first | exact HB.out | apply below_alloc | apply pw_below_drewN | apply below_drew1) | exact HB.out)) hb); clear HB; have HO173 := n0_; have HB := n1_; clear n0_ n1_; clear hb ho2))
  go_ret
  exact ⟨_, by first | rfl | (simp [errW_none, errW_some] <;> rfl) | (simp [*, errW_none, errW_some] <;> rfl), by (with_reducible repeat (first | apply Kd.R_alloc | apply Kd.R_drewN | apply Kd.R_drew)); exact HO173.out, by repeat (first | (with_reducible first | exact HB.out | apply below_alloc | apply pw_below_drewN | apply below_drew1) | exact HB.out)⟩
def squintref18_plain.l0 : Nat → Int → ByteArray → Option (ByteArray)
  | 0, _, _ => none
  | k + 1, x0, x3 => if x0 ≥ 10 then ((some (([(IntKind.u64.wrap (48 + (Int.tmod (IntKind.u64.wrap (Int.tdiv x0 10)) 10))) % 256] : List Int) : List Int)).bind fun y212 => (if (strOfNums y212).size + x3.size ≤ 9223372036854775807 then (squintref18_plain.l0 k (IntKind.u64.wrap (Int.tdiv x0 10)) ((strOfNums y212) ++ x3)) else (none))) else (some x3)
def squintref18_plain.f (k : Nat) (a0 : Int) : Option (ByteArray) := squintref18_plain.l0 k a0 (strOfNums (([(IntKind.u64.wrap (48 + (Int.tmod a0 10))) % 256] : List Int)))
set_option maxHeartbeats 8000000 in
set_option maxRecDepth 100000 in
theorem squintref18_plain.calls (k : Nat) (a0 : Int) (r : ByteArray) (w : World) (h : squintref18_plain.f k a0 = some r) :
    Calls Tryd.prog 56 #[.int .u64 a0] w fun e w' => e = .returned (.string r) ∧ Below w.heap.size w w' := by
  have HB := Aside0.mk (Below.refl w.heap.size w)
  have H : (squintref18_plain.l0 k a0 (strOfNums (([(IntKind.u64.wrap (48 + (Int.tmod a0 10))) % 256] : List Int)))) = some r := h
  clear h
  obtain ⟨y209, hy209⟩ : ∃ y_ : List Int, y_ = (([(IntKind.u64.wrap (48 + (Int.tmod a0 10))) % 256] : List Int)) := ⟨_, rfl⟩
  replace H : (squintref18_plain.l0 k a0 (strOfNums y209)) = some r := by first | (rw [hy209]; with_reducible exact H) | (have H2_ := (Option.bind_some _ _).symm.trans H; rw [hy209]; with_reducible exact H2_) | (have H2_ := (Option.bind_some _ _).symm.trans H; with_reducible exact H2_) | with_reducible exact H | (rw [hy209]; exact H) | exact H
  have Ny209 := Aside0.mk hy209
  clear hy209
  have H' := Aside0.mk H
  clear H
  go_enter Tryd.func56, Tryd.ntmps56
  go_wp2_with (first | ((with_reducible refine gate_dst (N := 8) rfl ?_); refine Kd.R_lit (Kd.int .u8) _ 5 ?hg (N := 8) ?hd (xs := ([(IntKind.u64.wrap (48 + (Int.tmod a0 10))) % 256] : List Int)) (inner := [.int .u8 ((IntKind.u64.wrap (48 + (Int.tmod a0 10))) % 256)]) (ok := fun _ => True) (okp := fun _ => True) ?hr ?hp (fun _ hk => hk) trivial (Below.refl _ _) (Nat.le_refl _) (by simp) ?_; (case hd => rfl); (case hg => rfl); (case hr => first | (go_simp; done) | (go_simp; rfl)); (case hp => exact (Reps.one (show Kd.M (Kd.int .u8) _ _ _ ((IntKind.u64.wrap (48 + (Int.tmod a0 10))) % 256) [.int .u8 ((IntKind.u64.wrap (48 + (Int.tmod a0 10))) % 256)] from rfl) (Reps.none _ _))); intro v210 w2 ho3 hb hg_ hnew_; clear hg_ hnew_; (first | rw [← Ny209.out] at ho3 | (simp only [Int.reduceToNat] at ho3; rw [← Ny209.out] at ho3)); have n0_ := Aside0.mk (Kd.R_lower ho3 (below_size (by repeat (first | (with_reducible first | exact HB.out | apply below_alloc | apply pw_below_drewN | apply below_drew1) | exact HB.out)))); have n1_ := Aside0.mk (below_step (by repeat (first | (with_reducible first | exact HB.out | apply below_alloc | apply pw_below_drewN | apply below_drew1) | exact HB.out)) hb); clear HB; have HO211 := n0_; have HB := n1_; clear n0_ n1_; clear hb ho3; have hcv4 := own_string (P := Tryd.prog) Tryd.underlying59 Tryd.underlying5 Tryd.underlying9 (Kd.own_of_R HO211.out)))
  go_loopg [0, 3] k (fun kq v0 v3 w' => ∃ (x0_1 : Int) (x3_1 : ByteArray), v0 = .int .u64 x0_1 ∧ v3 = .string x3_1 ∧ Aside0 (squintref18_plain.l0 kq x0_1 x3_1 = some r) ∧ Aside0 (kq ≤ k) ∧ Aside0 (Below w.heap.size w w'))
  case atStart => exact ⟨(a0), (strOfNums y209), (by first | rfl | (simp; done) | (simp [*]; done)), (by first | rfl | (simp; done) | (simp [*]; done)), H', ⟨Nat.le_refl _⟩, ⟨by repeat (first | (with_reducible first | exact HB.out | apply below_alloc | apply pw_below_drewN | apply below_drew1) | exact HB.out)⟩⟩
  case round =>
    clear H'
    try clear p2
    try clear hcv4
    obtain ⟨x0_1, x3_1, rfl, rfl, HA, HK1, HB⟩ := hrel
    cases gk with
    | zero => exact absurd HA.out (by simp [squintref18_plain.l0])
    | succ k1 =>
      have H := HA.out
      clear HA
      simp only [squintref18_plain.l0] at H
      by_cases c5 : x0_1 ≥ 10
      · rw [if_pos c5] at H
        have c5b0 : decide (10 ≤ x0_1) = true := decide_eq_true c5
        clear c5
        obtain ⟨y212, hy212⟩ : ∃ y_ : List Int, y_ = (([(IntKind.u64.wrap (48 + (Int.tmod (IntKind.u64.wrap (Int.tdiv x0_1 10)) 10))) % 256] : List Int)) := ⟨_, rfl⟩
        replace H : (if (strOfNums y212).size + x3_1.size ≤ 9223372036854775807 then (squintref18_plain.l0 k1 (IntKind.u64.wrap (Int.tdiv x0_1 10)) ((strOfNums y212) ++ x3_1)) else (none)) = some r := by first | (rw [hy212]; with_reducible exact H) | (have H2_ := (Option.bind_some _ _).symm.trans H; rw [hy212]; with_reducible exact H2_) | (have H2_ := (Option.bind_some _ _).symm.trans H; with_reducible exact H2_) | with_reducible exact H | (rw [hy212]; exact H) | exact H
        have Ny212 := Aside0.mk hy212
        clear hy212
        by_cases c6 : (strOfNums y212).size + x3_1.size ≤ 9223372036854775807
        · rw [if_pos c6] at H
          have c6b0 := eq_true c6
          have c6b1 : decide ((strOfNums y212).size + x3_1.size ≤ 9223372036854775807) = true := decide_eq_true c6
          try have c6b2 : (9223372036854775807 < (strOfNums y212).size + x3_1.size) = False := eq_false (Nat.not_lt.2 c6)
          have H' := Aside0.mk H
          clear H
          go_wp2_with (first | ((with_reducible refine gate_dst (N := 18) rfl ?_); refine Kd.R_lit (Kd.int .u8) _ 5 ?hg (N := 18) ?hd (xs := ([(IntKind.u64.wrap (48 + (Int.tmod (IntKind.u64.wrap (Int.tdiv x0_1 10)) 10))) % 256] : List Int)) (inner := [.int .u8 ((IntKind.u64.wrap (48 + (Int.tmod (IntKind.u64.wrap (Int.tdiv x0_1 10)) 10))) % 256)]) (ok := fun _ => True) (okp := fun _ => True) ?hr ?hp (fun _ hk => hk) trivial (Below.refl _ _) (Nat.le_refl _) (by simp) ?_; (case hd => rfl); (case hg => rfl); (case hr => first | (go_simp; done) | (go_simp; rfl)); (case hp => exact (Reps.one (show Kd.M (Kd.int .u8) _ _ _ ((IntKind.u64.wrap (48 + (Int.tmod (IntKind.u64.wrap (Int.tdiv x0_1 10)) 10))) % 256) [.int .u8 ((IntKind.u64.wrap (48 + (Int.tmod (IntKind.u64.wrap (Int.tdiv x0_1 10)) 10))) % 256)] from rfl) (Reps.none _ _))); intro v213 w7 ho8 hb hg_ hnew_; clear hg_ hnew_; (first | rw [← Ny212.out] at ho8 | (simp only [Int.reduceToNat] at ho8; rw [← Ny212.out] at ho8)); have n0_ := Aside0.mk (Kd.R_lower ho8 (below_size (by repeat (first | (with_reducible first | exact HB.out | apply below_alloc | apply pw_below_drewN | apply below_drew1) | exact HB.out)))); have n1_ := Aside0.mk (below_step (by repeat (first | (with_reducible first | exact HB.out | apply below_alloc | apply pw_below_drewN | apply below_drew1) | exact HB.out)) hb); clear HB; have HO214 := n0_; have HB := n1_; clear n0_ n1_; clear hb ho8; have hcv9 := own_string (P := Tryd.prog) Tryd.underlying59 Tryd.underlying5 Tryd.underlying9 (Kd.own_of_R HO214.out)))
          go_roundg k1
          case measure => have := HK1.out; omega
          case rel => exact ⟨(IntKind.u64.wrap (Int.tdiv x0_1 10)), ((strOfNums y212) ++ x3_1), (by first | rfl | (simp; done) | (simp [*]; done)), (by first | rfl | (simp; done) | (simp [*]; done)), H', ⟨by have := HK1.out; omega⟩, ⟨by repeat (first | (with_reducible first | exact HB.out | apply below_alloc | apply pw_below_drewN | apply below_drew1) | exact HB.out)⟩⟩
        · rw [if_neg c6] at H
          exact absurd H (by simp)
      · rw [if_neg c5] at H
        have c5b0 : decide (10 ≤ x0_1) = false := decide_eq_false c5
        clear c5
        obtain rfl := Option.some.inj H
        go_wp2
        go_ret
        exact ⟨by first | rfl | (simp [errW_none, errW_some] <;> rfl) | (simp [*, errW_none, errW_some] <;> rfl), by repeat (first | (with_reducible first | exact HB.out | apply below_alloc | apply pw_below_drewN | apply below_drew1) | exact HB.out)⟩
def squintref18_digits.f (k : Nat) (a0 : Int) : Option (ByteArray) := if a0 < 0 then ((squintref18_plain.f k (IntKind.u64.wrap ((IntKind.u64.wrap (wrap64 (-(wrap64 (a0 + 1))))) + 1))).bind fun t215 => (if 1 + t215.size ≤ 9223372036854775807 then (some ((⟨#[45]⟩ : ByteArray) ++ t215)) else (none))) else ((squintref18_plain.f k (IntKind.u64.wrap (a0))).bind fun t216 => (some t216))
set_option maxHeartbeats 8000000 in
set_option maxRecDepth 100000 in
theorem squintref18_digits.calls (k : Nat) (a0 : Int) (r : ByteArray) (w : World) (h : squintref18_digits.f k a0 = some r) :
    Calls Tryd.prog 47 #[.int .i64 a0] w fun e w' => e = .returned (.string r) ∧ Below w.heap.size w w' := by
  have HB := Aside0.mk (Below.refl w.heap.size w)
  have H : (if a0 < 0 then ((squintref18_plain.f k (IntKind.u64.wrap ((IntKind.u64.wrap (wrap64 (-(wrap64 (a0 + 1))))) + 1))).bind fun t215 => (if 1 + t215.size ≤ 9223372036854775807 then (some ((⟨#[45]⟩ : ByteArray) ++ t215)) else (none))) else ((squintref18_plain.f k (IntKind.u64.wrap (a0))).bind fun t216 => (some t216))) = some r := h
  clear h
  by_cases c2 : a0 < 0
  · rw [if_pos c2] at H
    have c2b0 : decide (a0 < 0) = true := decide_eq_true c2
    clear c2
    replace H := Option.bind_eq_some_iff.mp H
    obtain ⟨t215, A30, H⟩ := H
    replace H : (if 1 + t215.size ≤ 9223372036854775807 then (some ((⟨#[45]⟩ : ByteArray) ++ t215)) else (none)) = some r := H
    have A3 := Aside0.mk A30
    clear A30
    by_cases c4 : 1 + t215.size ≤ 9223372036854775807
    · rw [if_pos c4] at H
      have c4b0 := eq_true c4
      have c4b1 : decide (1 + t215.size ≤ 9223372036854775807) = true := decide_eq_true c4
      try have c4b2 : (9223372036854775807 < 1 + t215.size) = False := eq_false (Nat.not_lt.2 c4)
      obtain rfl := Option.some.inj H
      go_enter Tryd.func47, Tryd.ntmps47
      go_wp2_with (first | ((with_reducible refine gate_callee (f := 56) rfl ?_); refine goesL_ (some 10) rfl rfl Tryd.func56 (by kernel_rfl) rfl #[.int .u64 (IntKind.u64.wrap ((IntKind.u64.wrap (wrap64 (-(wrap64 (a0 + 1))))) + 1))] rfl (by (try simp only [List.map_toArray, List.map_cons, List.map_nil]); first | done | rfl | (simp only [List.length_drop, List.length_take]; rfl)) ?_; (with_reducible refine (squintref18_plain.calls k (IntKind.u64.wrap ((IntKind.u64.wrap (wrap64 (-(wrap64 (a0 + 1))))) + 1)) t215 _ A3.out).mono ?_); rintro e w5 ⟨rfl, hb⟩; refine ⟨_, rfl, ?_⟩; have n0_ := Aside0.mk (below_step (by repeat (first | (with_reducible first | exact HB.out | apply below_alloc | apply pw_below_drewN | apply below_drew1) | exact HB.out)) hb); clear HB; have HB := n0_; clear n0_; (try clear hb); (try clear hb2); (try clear hk); (try clear hi)))
      go_ret
      exact ⟨by first | rfl | (simp [errW_none, errW_some] <;> rfl) | (simp [*, errW_none, errW_some] <;> rfl), by repeat (first | (with_reducible first | exact HB.out | apply below_alloc | apply pw_below_drewN | apply below_drew1) | exact HB.out)⟩
    · rw [if_neg c4] at H
      exact absurd H (by simp)
  · rw [if_neg c2] at H
    have c2b0 : decide (a0 < 0) = false := decide_eq_false c2
    clear c2
    replace H := Option.bind_eq_some_iff.mp H
    obtain ⟨t216, A60, H⟩ := H
    replace H : (some t216) = some r := H
    have A6 := Aside0.mk A60
    clear A60
    obtain rfl := Option.some.inj H
    go_enter Tryd.func47, Tryd.ntmps47
    go_wp2_with (first | ((with_reducible refine gate_callee (f := 56) rfl ?_); refine goesL_ (some 14) rfl rfl Tryd.func56 (by kernel_rfl) rfl #[.int .u64 (IntKind.u64.wrap (a0))] rfl (by (try simp only [List.map_toArray, List.map_cons, List.map_nil]); first | done | rfl | (simp only [List.length_drop, List.length_take]; rfl)) ?_; (with_reducible refine (squintref18_plain.calls k (IntKind.u64.wrap (a0)) t216 _ A6.out).mono ?_); rintro e w7 ⟨rfl, hb⟩; refine ⟨_, rfl, ?_⟩; have n0_ := Aside0.mk (below_step (by repeat (first | (with_reducible first | exact HB.out | apply below_alloc | apply pw_below_drewN | apply below_drew1) | exact HB.out)) hb); clear HB; have HB := n0_; clear n0_; (try clear hb); (try clear hb2); (try clear hk); (try clear hi)))
    go_ret
    exact ⟨by first | rfl | (simp [errW_none, errW_some] <;> rfl) | (simp [*, errW_none, errW_some] <;> rfl), by repeat (first | (with_reducible first | exact HB.out | apply below_alloc | apply pw_below_drewN | apply below_drew1) | exact HB.out)⟩
end Go.Proofs.YtiapfhlipoomaaaDoor.Print
end
section
namespace Go.Proofs.YtiapfhlipoomaaaDoor.Given
open Go.RowKit Go.Proofs.YtiapfhlipoomaaaDoorW.PrintWords Go.Proofs.YtiapfhlipoomaaaDoorW.PrintLast Go.Proofs.YtiapfhlipoomaaaDoorW.PrintMore Go.Proofs.YtiapfhlipoomaaaDoor.Print
set_option linter.unusedVariables false
set_option linter.unusedSimpArgs false
def fillNums : List Nat → List ByteArray → S24 → Option (S24 × List ByteArray)
  | [], ws, x => some (x, ws)
  | _ :: _, [], _ => none
  | o :: r, t :: ws, x => match numOf t with
    | some n => fillNums r ws (setK x n o)
    | none => none
def idxB : List ByteArray → ByteArray → Nat → Int
  | [], _, _ => -1
  | a :: l, t, k => if t.toList = a.toList then (k : Int) else idxB l t (k + 1)
def fillWord (k : Nat) (p : S24 × List ByteArray) : Option (S24 × List ByteArray) :=
  if clsK k = 2 then match p.2 with
    | [] => none
    | t :: r => if t.toList = [] then none else some (setK p.1 (idxB (wsK k) t 0) 6, r)
  else some p
def fillRest (p : S24 × List ByteArray) : Option S24 := (numsIn p.2).bind fun l =>
  if okX ⟨p.1.f0, p.1.f1, p.1.f2, p.1.f3, p.1.f4, p.1.f5, p.1.f6, l⟩ = true then some ⟨p.1.f0, p.1.f1, p.1.f2, p.1.f3, p.1.f4, p.1.f5, p.1.f6, l⟩ else none
def fillOf (k : Nat) (ws : List ByteArray) : Option S24 := ((fillNums (atK k) ws ⟨k, 0, 0, 0, 0, 0, 0, []⟩).bind (fillWord k)).bind fillRest
theorem at_le (k o : Nat) (h : o ∈ atK k) : 1 ≤ o ∧ o ≤ 6 := by
  unfold atK at h
  rcases List.mem_append.1 h with h | h
  · exact fo_le k o h
  · split at h
    · simp only [List.mem_singleton] at h; omega
    · cases h
theorem at_len (k : Nat) : (atK k).length ≤ 6 := by
  unfold atK
  have := fo_len k
  rw [List.length_append]
  split <;> simp <;> omega
theorem index_from (l : List ByteArray) (t : ByteArray) (hs : l.length ≤ 7) : ∀ (m k : Nat), k + m = l.length → slices_Index_string_string.l0 (m + 1) l t (l.length : Int) (k : Int) = some (idxB (l.drop k) t k)
  | 0, k, h => by
    unfold slices_Index_string_string.l0
    rw [if_neg (by omega), List.drop_of_length_le (by omega)]
    rfl
  | m + 1, k, h => by
    unfold slices_Index_string_string.l0
    have ha : k < l.length := by omega
    rw [if_pos (by omega), if_pos (by omega), if_pos (by omega), wrap_small _ (by omega) (by omega)]
    have ra : rdOf ByteArray.empty l (k : Int) = l[k] := by simp [rdOf, ha]
    rw [ra, List.drop_eq_getElem_cons ha]
    by_cases he : t.toList = l[k].toList
    · rw [if_pos he, idxB, if_pos he]
    · rw [if_neg he, idxB, if_neg he]
      have := index_from l t hs m (k + 1) (by omega)
      rwa [show ((k : Int) + 1) = ((k + 1 : Nat) : Int) by omega]
theorem index_says (l : List ByteArray) (t : ByteArray) (hs : l.length ≤ 7) : slices_Index_string_string.f (l.length + 1) l t = some (idxB l t 0) := by
  unfold slices_Index_string_string.f
  have := index_from l t hs l.length 0 (by omega)
  simpa using this
theorem index_any (b : Nat) (l : List ByteArray) (t : ByteArray) (w : World) (hs : l.length ≤ 7) (h : w.heap[b]? = some (.cells (l.map Value.string).toArray 9 (0, 0))) :
    Calls Tryd.prog 59 #[.slice (some ⟨b, 0, none⟩) l.length l.length, .string t] w fun e w' => e = .returned (.int .i64 (idxB l t 0)) ∧ Drawn0 w w' := by
  refine slices_Index_string_string.calls (l.length + 1) _ _ l t _ w ?_ (Nat.le_refl _) (index_says l t hs)
  refine Kd.C_of_reads (enc := Value.string) (d := ByteArray.empty) (h1 := fun _ => rfl) ⟨rfl, by omega, fun _ => ⟨_, rfl, fun j hj => ?_⟩⟩
  have e2 : (⟨b, 0, none⟩ : Addr).add j = ⟨b, j, none⟩ := by simp [Addr.add]; exact Eq.symm
  rw [e2, blk_cell h j]
  simp [hj]
def WordsIn (w : World) (g : Nat) (A : Option Addr) (ws : List ByteArray) : Prop := (∀ ad, A = some ad → ad.block ≠ g) ∧ ∀ (j : Nat) t, ws[j]? = some t → ∃ ad, A = some ad ∧ w.cell? (ad.add j) = some (.string t)
theorem WordsIn.below {w w' : World} {g : Nat} {A : Option Addr} {ws : List ByteArray} (h : WordsIn w g A ws) (hb : Below w.heap.size w w') : WordsIn w' g A ws := ⟨h.1, fun j t hj => by
  obtain ⟨ad, ha, hc⟩ := h.2 j t hj
  exact ⟨ad, ha, pw_cell_below hb hc⟩⟩
theorem add_one_add (ad : Addr) (j : Nat) : (ad.add 1).add j = ad.add (1 + j) := by
  by_cases hj : j = 0
  · subst hj
    rfl
  · simp [Addr.add, hj, Nat.add_assoc]
theorem words_tail {w : World} {A : Option Addr} {t : ByteArray} {r : List ByteArray} {g : Nat} (h : WordsIn w g A (t :: r)) (c : Nat) (hc : r.length + 1 ≤ c) :
    ∃ A1, (∀ W : World, (Instr.slice 46 (.slice A (r.length + 1) c) (some (.int .i64 1)) none none).run Tryd.prog W = .ok (.slice A1 r.length (c - 1)) W) ∧ WordsIn w g A1 r := by
  obtain ⟨i0, hi0, _, hsz, _⟩ := info_parts info9
  have h0 := cut_from (P := Tryd.prog) 46 9 .i64 Tryd.underlying46 hi0 1 hsz A (r.length + 1) c 1 (by omega) (by omega)
  refine ⟨if c = 1 then A else A.map (·.add 1), fun W => by simpa using h0 W, fun ad had => ?_, fun j s hj => ?_⟩
  · split at had
    · exact h.1 ad had
    · obtain ⟨ad0, h1, rfl⟩ := Option.map_eq_some_iff.1 had
      rw [add_block]
      exact h.1 ad0 h1
  have hj2 := (List.getElem?_eq_some_iff.1 hj).1
  rw [if_neg (by omega)]
  obtain ⟨ad, ha, hcell⟩ := h.2 (1 + j) s (by rw [Nat.add_comm]; exact hj)
  subst ha
  exact ⟨_, rfl, by rw [add_one_add]; exact hcell⟩
theorem WordsIn.fr {base g : Nat} {w w' : World} {A : Option Addr} {ws : List ByteArray} (h : WordsIn w g A ws) (hf : Fr base g w w') (hb : w.heap.size ≤ base) : WordsIn w' g A ws := ⟨h.1, fun j t hj => by
  obtain ⟨ad, ha, hc⟩ := h.2 j t hj
  exact ⟨ad, ha, hf.cell hc hb (by rw [add_block]; exact h.1 ad ha)⟩⟩
end Go.Proofs.YtiapfhlipoomaaaDoor.Given
end
section
namespace Go.Proofs.YtiapfhlipoomaaaDoor.Given
open Go.RowKit Go.Proofs.YtiapfhlipoomaaaDoorW.PrintWords Go.Proofs.YtiapfhlipoomaaaDoorW.PrintLast Go.Proofs.YtiapfhlipoomaaaDoorW.PrintMore Go.Proofs.YtiapfhlipoomaaaDoor.Print
set_option linter.unusedVariables false
set_option linter.unusedSimpArgs false
def kp (g : Nat) : Kd Nat := Kd.scalar (fun o => Value.pointer (some ⟨g, o, none⟩)) (fun _ => rfl)
theorem info45 : (Tryd.prog.info? 45).map (fun i => (i.zero, i.size, i.bytes)) = some (some (.pointer none), 1, 8) := by kernel_rfl
theorem kp_C {w : World} {g : Nat} {A : Option Addr} {fo : List Nat} (hl : fo.length ≤ 7) (h : ∀ (j o : Nat), fo[j]? = some o → ∃ ad, A = some ad ∧ ad.block ≠ g ∧ w.cell? (ad.add j) = some (.pointer (some ⟨g, o, none⟩))) : Kd.C (kp g) w A fo.length fo := by
  refine Kd.C_of_reads (enc := fun o => Value.pointer (some ⟨g, o, none⟩)) (d := 0) (h1 := fun _ => rfl) ⟨rfl, by omega, fun hn => ?_⟩
  obtain ⟨ad, ha, _, _⟩ := h 0 fo[0] (List.getElem?_eq_getElem hn)
  refine ⟨ad, ha, fun j hj => ?_⟩
  obtain ⟨ad', ha', _, hc⟩ := h j fo[j] (List.getElem?_eq_getElem hj)
  rw [ha] at ha'
  injection ha' with e
  subst e
  rw [hc]
  simp [hj]
theorem kp_at {w : World} {g base : Nat} {ok : Nat → Prop} {v : Value} {fo : List Nat} (h : Kd.R (kp g) 45 w base ok v fo) (hg : g < base) : ∃ A c, v = .slice A fo.length c ∧ ∀ (j o : Nat), fo[j]? = some o → ∃ ad, A = some ad ∧ ad.block ≠ g ∧ w.cell? (ad.add j) = some (.pointer (some ⟨g, o, none⟩)) := by
  obtain ⟨A, c, hv, hl, hC⟩ := Kd.R_reads h
  refine ⟨A, c, hv, fun j o hj => ?_⟩
  have hjl := (List.getElem?_eq_some_iff.1 hj).1
  obtain ⟨g', cap, hv', hB, _⟩ := Kd.R_form h (by omega)
  have hr := Kd.reads_of_C (enc := fun o => Value.pointer (some ⟨g, o, none⟩)) (d := 0) (h1 := fun _ => rfl) hC
  obtain ⟨ad, ha, hc⟩ := hr.2.2 (by omega)
  rw [hv] at hv'
  injection hv' with e1 _ _
  rw [ha] at e1
  injection e1 with e1
  refine ⟨ad, ha, by rw [e1]; show g' ≠ g; omega, ?_⟩
  rw [hc j hjl]
  simp [hj]
def FillSays (w : World) (g : Nat) (r : Option S24) (e : Ending) (w' : World) : Prop := match r with
  | some x => e = .returned (.bool true) ∧ (∃ u, w'.heap[g]? = some (.cells (evC x u) 24 (0, 0)) ∧ Kd.R (Kd.int .i64) 3 w' w.heap.size (fun k => w.heap.size ≤ k) u x.f7) ∧ Fr w.heap.size g w w'
  | none => e = .returned (.bool false) ∧ (∃ x A n c, w'.heap[g]? = some (.cells (evC x (.slice A n c)) 24 (0, 0))) ∧ Fr w.heap.size g w w'
theorem nums_some {l : List ByteArray} {t : ByteArray} {a : Nat} (h : l[a]? = some t) : l.drop a = t :: l.drop (a + 1) := by
  obtain ⟨hl, rfl⟩ := List.getElem?_eq_some_iff.1 h
  exact List.drop_eq_getElem_cons hl
set_option maxRecDepth 100000 in
set_option maxHeartbeats 16000000 in
theorem fill_c0 (k : Nat) (h1 : 1 ≤ k) (h2 : k ≤ 11) (hc : clsK k = 0) (g : Nat) (AF A2 : Option Addr) (c2 : Nat) (ws : List ByteArray) (w w0 : World) (hL : LW w0) (hB0 : Below w0.heap.size w0 w) (hg0 : w0.heap.size ≤ g) (hg : w.heap[g]? = some (.cells (evC ⟨k, 0, 0, 0, 0, 0, 0, []⟩ (.slice none 0 0)) 24 (0, 0)))
    (hF : ∀ (j o : Nat), (foK k)[j]? = some o → ∃ ad, AF = some ad ∧ ad.block ≠ g ∧ w.cell? (ad.add j) = some (.pointer (some ⟨g, o, none⟩))) (hws : WordsIn w g A2 ws) (hcap : ws.length ≤ c2) (hlen : ws.length ≤ 4294967296) (hsz : ∀ t ∈ ws, t.size ≤ 281474976710656) :
    Calls Tryd.prog 49 #[.pointer (some ⟨g, 0, none⟩), .agg #[.string (wordB k), .slice AF (foK k).length (foK k).length, .pointer none, .slice none 0 0, .pointer none, .bool (liK k)], .slice A2 ws.length c2] w (FillSays w g (fillOf k ws)) := by
  have hu24 := Tryd.underlying24
  have hu48 := Tryd.underlying48
  have hu46 := Tryd.underlying46
  have HL := Aside0.mk hL
  have HB0 := Aside0.mk hB0
  have HG0 := Aside0.mk hg0
  have HCL := Aside0.mk hc
  have HLEN := Aside0.mk hlen
  have HSZ := Aside0.mk hsz
  have hfl := fo_len k
  have GW := Aside0.mk (blk_lt hg)
  have BG0 := Aside0.mk (blk_below hg (bel1 w (.cells #[.string (wordB k), .slice AF (foK k).length (foK k).length, .pointer none, .slice none 0 0, .pointer none, .bool (liK k)] 48)))
  have FF0 := Aside0.mk (fun j o hj => by obtain ⟨ad, e1, e2, e3⟩ := hF j o hj; exact ⟨ad, e1, e2, pw_cell_below (bel1 w (.cells #[.string (wordB k), .slice AF (foK k).length (foK k).length, .pointer none, .slice none 0 0, .pointer none, .bool (liK k)] 48)) e3⟩ : ∀ (j o : Nat), (foK k)[j]? = some o → ∃ ad, AF = some ad ∧ ad.block ≠ g ∧ (w.alloc (.cells #[.string (wordB k), .slice AF (foK k).length (foK k).length, .pointer none, .slice none 0 0, .pointer none, .bool (liK k)] 48)).cell? (ad.add j) = some (.pointer (some ⟨g, o, none⟩)))
  have WS0 := Aside0.mk (hws.below (bel1 w (.cells #[.string (wordB k), .slice AF (foK k).length (foK k).length, .pointer none, .slice none 0 0, .pointer none, .bool (liK k)] 48)))
  have BF0 := Aside0.mk (heap_alloc_new w (.cells #[.string (wordB k), .slice AF (foK k).length (foK k).length, .pointer none, .slice none 0 0, .pointer none, .bool (liK k)] 48))
  have NF := Aside0.mk (show w.heap.size ≠ g from Nat.ne_of_gt (blk_lt hg))
  have HZ := Aside0.mk (bel1 w (.cells #[.string (wordB k), .slice AF (foK k).length (foK k).length, .pointer none, .slice none 0 0, .pointer none, .bool (liK k)] 48))
  have GZ := Aside0.mk (show g < (w.alloc (.cells #[.string (wordB k), .slice AF (foK k).length (foK k).length, .pointer none, .slice none 0 0, .pointer none, .bool (liK k)] 48)).heap.size by have := blk_lt hg; rw [size_alloc]; omega)
  have HCAP := Aside0.mk hcap
  clear hL hB0 hg0 hc hlen hsz hg hF hws hcap
  go_enter Tryd.func49, Tryd.ntmps49
  go_upto_region 2 with (fail)
  generalize w.heap.size = g4 at BF0 NF ⊢
  generalize w.alloc (.cells #[.string (wordB k), .slice AF (foK k).length (foK k).length, .pointer none, .slice none 0 0, .pointer none, .bool (liK k)] 48) = wz at *
  have y1 : wz.cell? ⟨g4, 1, none⟩ = some (.slice AF (foK k).length (foK k).length) := (blk_cell BF0.out 1).trans rfl
  have y2 : wz.cell? ⟨g4, 2, none⟩ = some (.pointer none) := (blk_cell BF0.out 2).trans rfl
  have KC := Aside0.mk (kp_C (by omega) FF0.out)
  obtain ⟨v0, hv0⟩ : ∃ v, v = Value.slice none 0 0 := ⟨_, rfl⟩
  rw [← hv0]
  have HV0 : Aside0 (Kd.R (kp g) 45 wz wz.heap.size (fun _ => True) v0 []) := ⟨by rw [hv0]; exact Kd.R_nil _ _ _ _ _⟩
  clear hv0
  go_wp2_with (first
    | ((with_reducible refine gate_builtin (b := .append) (xs := #[.tmp 16, .tmp 18]) rfl ?_); at_builtin; refine Kd.R_append_rows (kp g) (w0 := wz) wz.heap.size rfl (.tmp 16) (.tmp 18) 44 45 (.pointer none) 8 rfl Tryd.underlying44 info45 rfl Nat.one_pos (by omega) v0 ([] : List Nat) (foK k) AF (foK k).length (foK k).length (fun _ => True) (fun _ => False) rfl rfl HV0.out KC.out (fun _ _ h => h) (fun _ h => h.elim) (fun _ _ => trivial) (Below.refl _ _) (Nat.le_refl _) (by simp only [List.length_nil]; omega) ?_; intro v7 wl ho hb _ _; obtain ⟨Av, cv, rfl⟩ := Kd.R_slice ho; have HO := Aside0.mk ho; have HB1 := Aside0.mk hb; clear ho hb; have z2 : wl.cell? ⟨g4, 2, none⟩ = some (.pointer none) := cell_keep BF0.out HB1.out rfl))
  have HAT : Aside0 (Kd.R (kp g) 45 wl wz.heap.size (fun _ => True) (.slice Av ([] ++ foK k).length cv) (atK k)) := ⟨by have h := HO.out; rw [show atK k = [] ++ foK k by unfold atK; rw [HCL.out]; simp]; exact h⟩
  obtain ⟨Aa, ca, hva, hat⟩ := kp_at HAT.out GZ.out
  have hvl : (foK k).length = (atK k).length := by rw [show atK k = [] ++ foK k by unfold atK; rw [HCL.out]; simp]; simp
  have hvm : ([] ++ foK k).length = (atK k).length := by rw [show atK k = [] ++ foK k by unfold atK; rw [HCL.out]; simp]
  rw [hvm] at hva
  rw [hvl]
  (try rw [show ((foK k).length : Int) + 1 = ((atK k).length : Int) by omega])
  injection hva with hva1 _ hva3
  subst hva1 hva3
  clear hvm
  clear hvl
  have AT := Aside0.mk hat
  have HWL := Aside0.mk (HZ.out.trans (HB1.out.mono HZ.out.size))
  have BG := Aside0.mk (blk_below BG0.out HB1.out)
  have BF := Aside0.mk (blk_below BF0.out HB1.out)
  have WS := Aside0.mk (WS0.out.below HB1.out)
  have GL := Aside0.mk (blk_lt BG.out)
  have hal := at_len k
  clear hat HO HAT HV0 BG0 BF0 WS0 FF0 KC HB1 HZ y1 y2 z2
  go_loopw [2, 30] (fun v2 i wr => ∃ (a : Nat) (Aw : Option Addr) (cw : Nat) (us : List ByteArray) (x : S24), i = .int .i64 a ∧ a ≤ (atK k).length ∧ v2 = .slice Aw us.length cw ∧ us.length ≤ cw ∧ Aside0 (WordsIn wr g Aw us) ∧ Aside0 (us.length ≤ ws.length ∧ ∀ t ∈ us, t ∈ ws) ∧ Aside0 (fillNums (atK k) ws ⟨k, 0, 0, 0, 0, 0, 0, []⟩ = fillNums ((atK k).drop a) us x) ∧ Aside0 (x.f0 = k ∧ x.f7 = []) ∧ Aside0 (wr.heap[g]? = some (.cells (evC x (.slice none 0 0)) 24 (0, 0))) ∧ Aside0 (Fr wl.heap.size g wl wr)) (fun _ i _ => (atK k).length - (intOf i).toNat)
  case atStart => exact ⟨0, A2, c2, ws, _, rfl, by omega, rfl, HCAP.out, WS, ⟨Nat.le_refl _, fun _ h => h⟩, ⟨rfl⟩, ⟨rfl, rfl⟩, BG, ⟨⟨rfl, rfl, rfl, Nat.le_refl _, fun _ _ _ => rfl⟩⟩⟩
  case round =>
    clear BG WS
    obtain ⟨a, Aw, cw, us, x, rfl, ha, rfl, hcw, WS, US, HF, HX, BG, FR⟩ := hrel
    have hlm : us.length ≤ 4294967296 := Nat.le_trans US.out.1 HLEN.out
    by_cases hlt : a < (atK k).length
    · obtain ⟨o, ho⟩ : ∃ o, (atK k)[a]? = some o := ⟨_, List.getElem?_eq_getElem hlt⟩
      obtain ⟨ad1, hA1, hn1, hc1⟩ := AT.out a o ho
      subst hA1
      have HO6 := Aside0.mk (at_le k o (List.mem_of_getElem? ho))
      have HDR : Aside0 ((atK k).drop a = o :: (atK k).drop (a + 1)) := ⟨by obtain ⟨hl, rfl⟩ := List.getElem?_eq_some_iff.1 ho; exact List.drop_eq_getElem_cons hl⟩
      have x1 : wr.cell? (ad1.add a) = some (.pointer (some ⟨g, o, none⟩)) := FR.out.cell hc1 (Nat.le_refl _) (by rw [add_block]; exact hn1)
      have x2 : wr.cell? ⟨g, o, none⟩ = some (.int .i64 (getK x o)) := (blk_cell BG.out o).trans (ev_get x _ o HO6.out.1 HO6.out.2)
      clear hc1 hn1 ho
      cases us with
      | nil =>
        have HR : Aside0 (fillOf k ws = none) := ⟨by unfold fillOf; rw [HF.out, HDR.out]; rfl⟩
        simp only [List.length_nil] at hcw ⊢
        go_wp2_with (fail)
        go_ret
        rw [HR.out]
        exact ⟨rfl, ⟨_, _, _, _, BG.out⟩, (Fr.of_below HWL.out).trans (FR.out.mono HWL.out.size)⟩
      | cons t r =>
        simp only [List.length_cons] at hcw hlm ⊢
        obtain ⟨ad2, hA2, hw2⟩ := WS.out.2 0 t rfl
        subst hA2
        have x3 : wr.cell? ad2 = some (.string t) := hw2
        have HTS := Aside0.mk (HSZ.out t (US.out.2 t (List.mem_cons_self ..)))
        have FRW := Aside0.mk ((Fr.of_below HWL.out).trans (FR.out.mono HWL.out.size))
        have HLW : Aside0 (LW wr) := ⟨HL.out.below (HB0.out.trans (FRW.out.below HB0.out.size HG0.out))⟩
        cases hn : numOf t with
        | none =>
          have HN := Aside0.mk hn
          have HR : Aside0 (fillOf k ws = none) := ⟨by unfold fillOf; rw [HF.out, HDR.out, fillNums, HN.out]; rfl⟩
          clear hn
          go_wp2_with (go_at_call 58; refine (number_no t HN.out _ HLW.out HTS.out).mono ?_; rintro e w3 ⟨⟨v3, rfl⟩, hb⟩; have NB := Aside0.mk hb; clear hb)
          go_ret
          rw [HR.out]
          exact ⟨rfl, ⟨_, _, _, _, blk_below BG.out NB.out⟩, FRW.out.trans (Fr.of_below (NB.out.mono FRW.out.size))⟩
        | some n =>
          have HN := Aside0.mk hn
          have HF2 : Aside0 (fillNums (atK k) ws ⟨k, 0, 0, 0, 0, 0, 0, []⟩ = fillNums ((atK k).drop (a + 1)) r (setK x n o)) := ⟨by rw [HF.out, HDR.out, fillNums, HN.out]⟩
          have HX2 : Aside0 ((setK x n o).f0 = k ∧ (setK x n o).f7 = []) := ⟨by rw [setK_f0, setK_f7]; exact HX.out⟩
          obtain ⟨A3, hsl, hw3⟩ := words_tail WS.out cw (by omega)
          have WS3 := Aside0.mk hw3
          have US2 : Aside0 (r.length ≤ ws.length ∧ ∀ t ∈ r, t ∈ ws) := ⟨by have h1 := US.out.1; have h2 := US.out.2; simp only [List.length_cons] at h1; exact ⟨by omega, fun q hq => h2 q (List.mem_cons_of_mem _ hq)⟩⟩
          have hcw3 : r.length ≤ cw - 1 := by omega
          have HCW3 := Aside0.mk hcw3
          clear hn hw3 hcw3
          go_wp2_with (go_at_call 58; refine (number_yes t n HN.out _ HLW.out HTS.out).mono ?_; rintro e w3 ⟨rfl, hb⟩; have NB := Aside0.mk hb; clear hb; have BG3 := Aside0.mk (blk_below BG.out NB.out); have x4 : w3.cell? ⟨g, o, none⟩ = some (.int .i64 (getK x o)) := (blk_cell BG3.out o).trans (ev_get x _ o HO6.out.1 HO6.out.2); have x5 : w3.frozen? ⟨g, o, none⟩ = false := Lib.frozen_of_heap BG3.out o)
          have FR3 := Aside0.mk (fr_set (FR.out.trans (Fr.of_below (NB.out.mono FR.out.size))) o (.int .i64 n))
          have BG4 : Aside0 ((w3.setCell ⟨g, o, none⟩ (.int .i64 n)).heap[g]? = some (.cells (evC (setK x n o) (.slice none 0 0)) 24 (0, 0))) := ⟨blk_put BG3.out o _ (setK_cells x _ n o HO6.out.1 HO6.out.2)⟩
          have WS4 := Aside0.mk ((WS3.out.below NB.out).fr (base := w3.heap.size) (w' := w3.setCell ⟨g, o, none⟩ (.int .i64 n)) (fr_set ⟨rfl, rfl, rfl, Nat.le_refl _, fun _ _ _ => rfl⟩ o _) (Nat.le_refl _))
          go_roundw
          case rel => exact ⟨a + 1, A3, cw - 1, r, setK x n o, by go_num, by omega, rfl, HCW3.out, WS4, US2, HF2, HX2, BG4, FR3⟩
          case measure => simp [intOf]; omega
    · obtain rfl : a = (atK k).length := by omega
      have HF2 : Aside0 (fillNums (atK k) ws ⟨k, 0, 0, 0, 0, 0, 0, []⟩ = some (x, us)) := ⟨by rw [HF.out, List.drop_length]; rfl⟩
      have FRW := Aside0.mk ((Fr.of_below HWL.out).trans (FR.out.mono HWL.out.size))
      have z3 : wr.cell? ⟨g4, 3, none⟩ = some (.slice none 0 0) := (blk_cell (FR.out.blk BF.out (Nat.le_refl _) NF.out) 3).trans rfl
      clear HF ha hlt
      have HFO : Aside0 (fillOf k ws = fillRest (x, us)) := ⟨by unfold fillOf; rw [HF2.out]; simp only [Option.bind_some]; rw [show fillWord k (x, us) = some (x, us) by unfold fillWord; rw [HCL.out]; rfl]; rfl⟩
      go_wp2_with (fail)
      obtain ⟨wl2, rfl⟩ : ∃ wl2 : World, wl2 = wr := ⟨_, rfl⟩
      clear z3 HF2
      have UL : Aside0 (us.length ≤ 4294967296) := ⟨Nat.le_trans US.out.1 HLEN.out⟩
      have GL2 := Aside0.mk (blk_lt BG.out)
      go_loopw [77] (fun i wr => ∃ (a : Nat) (ns : List Int) (un : Value), i = .int .i64 a ∧ a ≤ us.length ∧ Aside0 (numsIn us = (numsIn (us.drop a)).map (ns ++ ·)) ∧ Aside0 (ns.length = a) ∧ Aside0 (wr.heap[g]? = some (.cells (evC x un) 24 (0, 0))) ∧ Aside0 (Kd.R (Kd.int .i64) 3 wr wl2.heap.size (fun k => wl2.heap.size ≤ k) un ns) ∧ Aside0 (Fr wl2.heap.size g wl2 wr)) (fun i _ => us.length - (intOf i).toNat)
      case atStart => exact ⟨0, [], _, rfl, by omega, ⟨by rw [List.drop_zero]; cases numsIn us <;> simp⟩, ⟨rfl⟩, BG, ⟨Kd.R_nil _ _ _ _ _⟩, ⟨⟨rfl, rfl, rfl, Nat.le_refl _, fun _ _ _ => rfl⟩⟩⟩
      case round =>
        clear BG
        obtain ⟨a, ns, un, rfl, ha, HN, HNL, BG, HO, FR2⟩ := hrel
        have hul := UL.out
        have FRX := Aside0.mk (FRW.out.trans (FR2.out.mono FRW.out.size))
        obtain ⟨Au, cu, rfl⟩ := Kd.R_slice HO.out
        by_cases hlt : a < us.length
        · obtain ⟨t, ht⟩ : ∃ t, us[a]? = some t := ⟨_, List.getElem?_eq_getElem hlt⟩
          obtain ⟨adw, hAw, hcw⟩ := WS.out.2 a t ht
          have had := WS.out.1 adw hAw
          subst hAw
          have x1 : wr.cell? (adw.add a) = some (.string t) := FR2.out.cell hcw (Nat.le_refl _) (by rw [add_block]; exact had)
          have HTS := Aside0.mk (HSZ.out t (US.out.2 t (List.mem_of_getElem? ht)))
          have HLW : Aside0 (LW wr) := ⟨HL.out.below (HB0.out.trans (FRX.out.below HB0.out.size HG0.out))⟩
          have HDR := Aside0.mk (nums_some ht)
          clear hcw had ht
          cases hn : numOf t with
          | none =>
            have HNN := Aside0.mk hn
            have HR : Aside0 (fillOf k ws = none) := ⟨by rw [HFO.out]; unfold fillRest; simp only; rw [HN.out, HDR.out, numsIn, HNN.out]; rfl⟩
            clear hn
            go_wp2_with (go_at_call 58; refine (number_no t HNN.out _ HLW.out HTS.out).mono ?_; rintro e w3 ⟨⟨v3, rfl⟩, hb⟩; have NB := Aside0.mk hb; clear hb)
            go_ret
            rw [HR.out]
            exact ⟨rfl, ⟨_, _, _, _, blk_below BG.out NB.out⟩, FRX.out.trans (Fr.of_below (NB.out.mono FRX.out.size))⟩
          | some n =>
            have HNN := Aside0.mk hn
            have HN2 : Aside0 (numsIn us = (numsIn (us.drop (a + 1))).map ((ns ++ [n]) ++ ·)) := ⟨by rw [HN.out, HDR.out, numsIn, HNN.out]; cases numsIn (us.drop (a + 1)) <;> simp⟩
            have HTL : Aside0 ((ns.length + 1) * 8 ≤ 140737488355328) := ⟨by rw [HNL.out]; omega⟩
            clear hn
            go_wp2_with (first
              | (go_at_call 58; refine (number_yes t n HNN.out _ HLW.out HTS.out).mono ?_; rintro e w3 ⟨rfl, hb⟩; have NB := Aside0.mk hb; clear hb; have BG3 := Aside0.mk (blk_below BG.out NB.out); have HO3 := Aside0.mk (Kd.R_below HO.out NB.out); have x7 : w3.cell? ⟨g, 7, none⟩ = some (.slice Au ns.length cu) := (blk_cell BG3.out 7).trans rfl)
              | ((with_reducible refine gate_builtin (b := .append) (xs := #[.tmp 92, .tmp 94]) rfl ?_); at_builtin; refine Kd.R_append (Kd.int .i64) (w0 := w3) wl2.heap.size rfl (.tmp 92) (.tmp 94) 22 3 (.int .i64 0) 8 rfl Tryd.underlying22 info3 rfl (by decide) (by omega) (.slice Au ns.length cu) ns n [.int .i64 n] (fun k => wl2.heap.size ≤ k) (fun _ => False) rfl rfl rfl (fun _ h => h.elim) (fun k hk => Nat.le_trans (Nat.le_trans FR2.out.size NB.out.size) hk) HO3.out (Below.refl _ _) (Nat.le_trans FR2.out.size NB.out.size) HTL.out ?_; intro v4 w4 ho hb _ _; obtain ⟨Av, cv, rfl⟩ := Kd.R_slice ho; have HO4 := Aside0.mk ho; have NB4 := Aside0.mk hb; clear ho hb; have BG4 : Aside0 (w4.heap[g]? = some (.cells (evC x (.slice Au ns.length cu)) 24 (0, 0))) := ⟨(NB4.out.block g GL2.out).trans BG3.out⟩; have x8 : w4.cell? ⟨g, 7, none⟩ = some (.slice Au ns.length cu) := (blk_cell BG4.out 7).trans rfl; have x9 : w4.frozen? ⟨g, 7, none⟩ = false := Lib.frozen_of_heap BG4.out 7))
            have HO5 : Aside0 (Kd.R (Kd.int .i64) 3 (w4.setCell ⟨g, 7, none⟩ (.slice Av (ns ++ [n]).length cv)) wl2.heap.size (fun k => wl2.heap.size ≤ k) (.slice Av (ns ++ [n]).length cv) (ns ++ [n])) := ⟨Kd.R_far HO4.out (fun k hk => Nat.ne_of_gt (Nat.lt_of_lt_of_le GL2.out hk)) _⟩
            have BG5 : Aside0 ((w4.setCell ⟨g, 7, none⟩ (.slice Av (ns ++ [n]).length cv)).heap[g]? = some (.cells (evC x (.slice Av (ns ++ [n]).length cv)) 24 (0, 0))) := ⟨blk_put BG4.out 7 _ rfl⟩
            have FR5 := Aside0.mk (fr_set ((FR2.out.trans (Fr.of_below (NB.out.mono FR2.out.size))).trans (Fr.of_below NB4.out)) 7 (.slice Av (ns ++ [n]).length cv))
            simp only [List.length_append, List.length_cons, List.length_nil, Nat.zero_add] at HO5 BG5 FR5
            go_roundw
            case rel => exact ⟨a + 1, ns ++ [n], _, by go_num, by omega, HN2, ⟨by rw [List.length_append, HNL.out]; rfl⟩, BG5, HO5, FR5⟩
            case measure => simp [intOf]; omega
        · obtain rfl : a = us.length := by omega
          have HNS : Aside0 (numsIn us = some ns) := ⟨by rw [HN.out, List.drop_length]; simp [numsIn]⟩
          obtain ⟨_, hcu, hC⟩ := Kd.R_reads' HO.out
          have HC := Aside0.mk hC
          have HCU := Aside0.mk hcu
          obtain ⟨y, hy⟩ : ∃ y : S24, y = ⟨x.f0, x.f1, x.f2, x.f3, x.f4, x.f5, x.f6, ns⟩ := ⟨_, rfl⟩
          have HY := Aside0.mk hy
          clear hC hcu hy hlt ha
          cases hok : okX y with
          | true =>
            have HCK : Aside0 (checkOf ⟨x.f0, x.f1, x.f2, x.f3, x.f4, x.f5, x.f6, ns⟩ = 0) := ⟨by rw [← HY.out, checkOf_ok, hok]; rfl⟩
            have HR : Aside0 (fillOf k ws = some y) := ⟨by rw [HFO.out]; unfold fillRest; simp only; rw [HNS.out]; simp only [Option.bind_some]; rw [← HY.out, if_pos hok]⟩
            clear hok
            go_wp2_with (first
              | (refine wpList_load_row rfl 24 (.tmp 100) rfl g rfl 24 (evC x (.slice Au ns.length cu)) (0, 0) _ BG.out Tryd.underlying24 rfl (by kernel_rfl) ?_)
              | (go_at_call 10; refine (chk_any ⟨x.f0, x.f1, x.f2, x.f3, x.f4, x.f5, x.f6, ns⟩ Au cu _ HC.out HCU.out).mono ?_; rw [HCK.out]; rintro e w5 ⟨rfl, hb⟩; have NB := Aside0.mk hb; clear hb))
            go_ret
            rw [HR.out]
            exact ⟨rfl, ⟨_, by rw [HY.out]; exact blk_below BG.out NB.out, by rw [HY.out]; exact Kd.R_mono (Kd.R_lower (Kd.R_below HO.out NB.out) FRW.out.size) (fun k hk => Nat.le_trans FRW.out.size hk)⟩, FRX.out.trans (Fr.of_below (NB.out.mono FRX.out.size))⟩
          | false =>
            have HCK : Aside0 (checkOf ⟨x.f0, x.f1, x.f2, x.f3, x.f4, x.f5, x.f6, ns⟩ = 180) := ⟨by rw [← HY.out, checkOf_ok, hok]; rfl⟩
            have HR : Aside0 (fillOf k ws = none) := ⟨by rw [HFO.out]; unfold fillRest; simp only; rw [HNS.out]; simp only [Option.bind_some]; rw [← HY.out, if_neg (by rw [hok]; decide)]⟩
            clear hok
            go_wp2_with (first
              | (refine wpList_load_row rfl 24 (.tmp 100) rfl g rfl 24 (evC x (.slice Au ns.length cu)) (0, 0) _ BG.out Tryd.underlying24 rfl (by kernel_rfl) ?_)
              | (go_at_call 10; refine (chk_any ⟨x.f0, x.f1, x.f2, x.f3, x.f4, x.f5, x.f6, ns⟩ Au cu _ HC.out HCU.out).mono ?_; rw [HCK.out]; rintro e w5 ⟨rfl, hb⟩; have NB := Aside0.mk hb; clear hb))
            go_ret
            rw [HR.out]
            exact ⟨rfl, ⟨_, _, _, _, blk_below BG.out NB.out⟩, FRX.out.trans (Fr.of_below (NB.out.mono FRX.out.size))⟩
set_option maxRecDepth 100000 in
set_option maxHeartbeats 16000000 in
theorem fill_c1 (k : Nat) (h1 : 1 ≤ k) (h2 : k ≤ 11) (hc : clsK k = 1) (g : Nat) (AF A2 : Option Addr) (c2 : Nat) (ws : List ByteArray) (w w0 : World) (hL : LW w0) (hB0 : Below w0.heap.size w0 w) (hg0 : w0.heap.size ≤ g) (hg : w.heap[g]? = some (.cells (evC ⟨k, 0, 0, 0, 0, 0, 0, []⟩ (.slice none 0 0)) 24 (0, 0)))
    (hF : ∀ (j o : Nat), (foK k)[j]? = some o → ∃ ad, AF = some ad ∧ ad.block ≠ g ∧ w.cell? (ad.add j) = some (.pointer (some ⟨g, o, none⟩))) (hws : WordsIn w g A2 ws) (hcap : ws.length ≤ c2) (hlen : ws.length ≤ 4294967296) (hsz : ∀ t ∈ ws, t.size ≤ 281474976710656) :
    Calls Tryd.prog 49 #[.pointer (some ⟨g, 0, none⟩), .agg #[.string (wordB k), .slice AF (foK k).length (foK k).length, .pointer (some ⟨g, 6, none⟩), .slice none 0 0, .pointer none, .bool false], .slice A2 ws.length c2] w (FillSays w g (fillOf k ws)) := by
  have hu24 := Tryd.underlying24
  have hu48 := Tryd.underlying48
  have hu46 := Tryd.underlying46
  have HL := Aside0.mk hL
  have HB0 := Aside0.mk hB0
  have HG0 := Aside0.mk hg0
  have HCL := Aside0.mk hc
  have HLEN := Aside0.mk hlen
  have HSZ := Aside0.mk hsz
  have hfl := fo_len k
  have GW := Aside0.mk (blk_lt hg)
  have BG0 := Aside0.mk (blk_below hg (bel1 w (.cells #[.string (wordB k), .slice AF (foK k).length (foK k).length, .pointer (some ⟨g, 6, none⟩), .slice none 0 0, .pointer none, .bool false] 48)))
  have FF0 := Aside0.mk (fun j o hj => by obtain ⟨ad, e1, e2, e3⟩ := hF j o hj; exact ⟨ad, e1, e2, pw_cell_below (bel1 w (.cells #[.string (wordB k), .slice AF (foK k).length (foK k).length, .pointer (some ⟨g, 6, none⟩), .slice none 0 0, .pointer none, .bool false] 48)) e3⟩ : ∀ (j o : Nat), (foK k)[j]? = some o → ∃ ad, AF = some ad ∧ ad.block ≠ g ∧ (w.alloc (.cells #[.string (wordB k), .slice AF (foK k).length (foK k).length, .pointer (some ⟨g, 6, none⟩), .slice none 0 0, .pointer none, .bool false] 48)).cell? (ad.add j) = some (.pointer (some ⟨g, o, none⟩)))
  have WS0 := Aside0.mk (hws.below (bel1 w (.cells #[.string (wordB k), .slice AF (foK k).length (foK k).length, .pointer (some ⟨g, 6, none⟩), .slice none 0 0, .pointer none, .bool false] 48)))
  have BF0 := Aside0.mk (heap_alloc_new w (.cells #[.string (wordB k), .slice AF (foK k).length (foK k).length, .pointer (some ⟨g, 6, none⟩), .slice none 0 0, .pointer none, .bool false] 48))
  have NF := Aside0.mk (show w.heap.size ≠ g from Nat.ne_of_gt (blk_lt hg))
  have HZ := Aside0.mk (bel1 w (.cells #[.string (wordB k), .slice AF (foK k).length (foK k).length, .pointer (some ⟨g, 6, none⟩), .slice none 0 0, .pointer none, .bool false] 48))
  have GZ := Aside0.mk (show g < (w.alloc (.cells #[.string (wordB k), .slice AF (foK k).length (foK k).length, .pointer (some ⟨g, 6, none⟩), .slice none 0 0, .pointer none, .bool false] 48)).heap.size by have := blk_lt hg; rw [size_alloc]; omega)
  have HCAP := Aside0.mk hcap
  clear hL hB0 hg0 hc hlen hsz hg hF hws hcap
  go_enter Tryd.func49, Tryd.ntmps49
  go_upto_region 2 with (fail)
  generalize w.heap.size = g4 at BF0 NF ⊢
  generalize w.alloc (.cells #[.string (wordB k), .slice AF (foK k).length (foK k).length, .pointer (some ⟨g, 6, none⟩), .slice none 0 0, .pointer none, .bool false] 48) = wz at *
  have y1 : wz.cell? ⟨g4, 1, none⟩ = some (.slice AF (foK k).length (foK k).length) := (blk_cell BF0.out 1).trans rfl
  have y2 : wz.cell? ⟨g4, 2, none⟩ = some (.pointer (some ⟨g, 6, none⟩)) := (blk_cell BF0.out 2).trans rfl
  have KC := Aside0.mk (kp_C (by omega) FF0.out)
  obtain ⟨v0, hv0⟩ : ∃ v, v = Value.slice none 0 0 := ⟨_, rfl⟩
  rw [← hv0]
  have HV0 : Aside0 (Kd.R (kp g) 45 wz wz.heap.size (fun _ => True) v0 []) := ⟨by rw [hv0]; exact Kd.R_nil _ _ _ _ _⟩
  clear hv0
  go_wp2_with (first
    | ((with_reducible refine gate_builtin (b := .append) (xs := #[.tmp 16, .tmp 18]) rfl ?_); at_builtin; refine Kd.R_append_rows (kp g) (w0 := wz) wz.heap.size rfl (.tmp 16) (.tmp 18) 44 45 (.pointer none) 8 rfl Tryd.underlying44 info45 rfl Nat.one_pos (by omega) v0 ([] : List Nat) (foK k) AF (foK k).length (foK k).length (fun _ => True) (fun _ => False) rfl rfl HV0.out KC.out (fun _ _ h => h) (fun _ h => h.elim) (fun _ _ => trivial) (Below.refl _ _) (Nat.le_refl _) (by simp only [List.length_nil]; omega) ?_; intro v7 wl ho hb _ _; obtain ⟨Av, cv, rfl⟩ := Kd.R_slice ho; have HO := Aside0.mk ho; have HB1 := Aside0.mk hb; clear ho hb; have z2 : wl.cell? ⟨g4, 2, none⟩ = some (.pointer (some ⟨g, 6, none⟩)) := cell_keep BF0.out HB1.out rfl)
    | ((with_reducible refine gate_builtin (b := .append) (xs := #[.tmp 23, .tmp 26]) rfl ?_); at_builtin; refine Kd.R_append (kp g) (w0 := wz) wz.heap.size rfl (.tmp 23) (.tmp 26) 44 45 (.pointer none) 8 rfl Tryd.underlying44 info45 rfl Nat.one_pos (by omega) (.slice Av ([] ++ foK k).length cv) ([] ++ foK k) 6 [.pointer (some ⟨g, 6, none⟩)] (fun _ => True) (fun _ => False) rfl rfl rfl (fun _ h => h.elim) (fun _ _ => trivial) HO.out HB1.out HB1.out.size (by simp only [List.nil_append]; omega) ?_; intro v8 wm ho hb _ _; obtain ⟨Ax, cx, rfl⟩ := Kd.R_slice ho; have HO2 := Aside0.mk ho; have HB2 := Aside0.mk hb; clear ho hb HO HB1; have HO := HO2; have HB1 := HB2; clear HO2 HB2))
  have HAT : Aside0 (Kd.R (kp g) 45 wm wz.heap.size (fun _ => True) (.slice Ax ([] ++ foK k ++ [6]).length cx) (atK k)) := ⟨by have h := HO.out; rw [show atK k = [] ++ foK k ++ [6] by unfold atK; rw [HCL.out]; simp]; exact h⟩
  obtain ⟨Aa, ca, hva, hat⟩ := kp_at HAT.out GZ.out
  have hvl : ((foK k).length + 1) = (atK k).length := by rw [show atK k = [] ++ foK k ++ [6] by unfold atK; rw [HCL.out]; simp]; simp
  have hvm : ([] ++ foK k ++ [6]).length = (atK k).length := by rw [show atK k = [] ++ foK k ++ [6] by unfold atK; rw [HCL.out]; simp]
  rw [hvm] at hva
  rw [hvl]
  (try rw [show ((foK k).length : Int) + 1 = ((atK k).length : Int) by omega])
  injection hva with hva1 _ hva3
  subst hva1 hva3
  clear hvm
  clear hvl
  have AT := Aside0.mk hat
  have HWL := Aside0.mk (HZ.out.trans (HB1.out.mono HZ.out.size))
  have BG := Aside0.mk (blk_below BG0.out HB1.out)
  have BF := Aside0.mk (blk_below BF0.out HB1.out)
  have WS := Aside0.mk (WS0.out.below HB1.out)
  have GL := Aside0.mk (blk_lt BG.out)
  have hal := at_len k
  clear hat HO HAT HV0 BG0 BF0 WS0 FF0 KC HB1 HZ y1 y2 z2
  go_loopw [2, 30] (fun v2 i wr => ∃ (a : Nat) (Aw : Option Addr) (cw : Nat) (us : List ByteArray) (x : S24), i = .int .i64 a ∧ a ≤ (atK k).length ∧ v2 = .slice Aw us.length cw ∧ us.length ≤ cw ∧ Aside0 (WordsIn wr g Aw us) ∧ Aside0 (us.length ≤ ws.length ∧ ∀ t ∈ us, t ∈ ws) ∧ Aside0 (fillNums (atK k) ws ⟨k, 0, 0, 0, 0, 0, 0, []⟩ = fillNums ((atK k).drop a) us x) ∧ Aside0 (x.f0 = k ∧ x.f7 = []) ∧ Aside0 (wr.heap[g]? = some (.cells (evC x (.slice none 0 0)) 24 (0, 0))) ∧ Aside0 (Fr wm.heap.size g wm wr)) (fun _ i _ => (atK k).length - (intOf i).toNat)
  case atStart => exact ⟨0, A2, c2, ws, _, rfl, by omega, rfl, HCAP.out, WS, ⟨Nat.le_refl _, fun _ h => h⟩, ⟨rfl⟩, ⟨rfl, rfl⟩, BG, ⟨⟨rfl, rfl, rfl, Nat.le_refl _, fun _ _ _ => rfl⟩⟩⟩
  case round =>
    clear BG WS
    obtain ⟨a, Aw, cw, us, x, rfl, ha, rfl, hcw, WS, US, HF, HX, BG, FR⟩ := hrel
    have hlm : us.length ≤ 4294967296 := Nat.le_trans US.out.1 HLEN.out
    by_cases hlt : a < (atK k).length
    · obtain ⟨o, ho⟩ : ∃ o, (atK k)[a]? = some o := ⟨_, List.getElem?_eq_getElem hlt⟩
      obtain ⟨ad1, hA1, hn1, hc1⟩ := AT.out a o ho
      subst hA1
      have HO6 := Aside0.mk (at_le k o (List.mem_of_getElem? ho))
      have HDR : Aside0 ((atK k).drop a = o :: (atK k).drop (a + 1)) := ⟨by obtain ⟨hl, rfl⟩ := List.getElem?_eq_some_iff.1 ho; exact List.drop_eq_getElem_cons hl⟩
      have x1 : wr.cell? (ad1.add a) = some (.pointer (some ⟨g, o, none⟩)) := FR.out.cell hc1 (Nat.le_refl _) (by rw [add_block]; exact hn1)
      have x2 : wr.cell? ⟨g, o, none⟩ = some (.int .i64 (getK x o)) := (blk_cell BG.out o).trans (ev_get x _ o HO6.out.1 HO6.out.2)
      clear hc1 hn1 ho
      cases us with
      | nil =>
        have HR : Aside0 (fillOf k ws = none) := ⟨by unfold fillOf; rw [HF.out, HDR.out]; rfl⟩
        simp only [List.length_nil] at hcw ⊢
        go_wp2_with (fail)
        go_ret
        rw [HR.out]
        exact ⟨rfl, ⟨_, _, _, _, BG.out⟩, (Fr.of_below HWL.out).trans (FR.out.mono HWL.out.size)⟩
      | cons t r =>
        simp only [List.length_cons] at hcw hlm ⊢
        obtain ⟨ad2, hA2, hw2⟩ := WS.out.2 0 t rfl
        subst hA2
        have x3 : wr.cell? ad2 = some (.string t) := hw2
        have HTS := Aside0.mk (HSZ.out t (US.out.2 t (List.mem_cons_self ..)))
        have FRW := Aside0.mk ((Fr.of_below HWL.out).trans (FR.out.mono HWL.out.size))
        have HLW : Aside0 (LW wr) := ⟨HL.out.below (HB0.out.trans (FRW.out.below HB0.out.size HG0.out))⟩
        cases hn : numOf t with
        | none =>
          have HN := Aside0.mk hn
          have HR : Aside0 (fillOf k ws = none) := ⟨by unfold fillOf; rw [HF.out, HDR.out, fillNums, HN.out]; rfl⟩
          clear hn
          go_wp2_with (go_at_call 58; refine (number_no t HN.out _ HLW.out HTS.out).mono ?_; rintro e w3 ⟨⟨v3, rfl⟩, hb⟩; have NB := Aside0.mk hb; clear hb)
          go_ret
          rw [HR.out]
          exact ⟨rfl, ⟨_, _, _, _, blk_below BG.out NB.out⟩, FRW.out.trans (Fr.of_below (NB.out.mono FRW.out.size))⟩
        | some n =>
          have HN := Aside0.mk hn
          have HF2 : Aside0 (fillNums (atK k) ws ⟨k, 0, 0, 0, 0, 0, 0, []⟩ = fillNums ((atK k).drop (a + 1)) r (setK x n o)) := ⟨by rw [HF.out, HDR.out, fillNums, HN.out]⟩
          have HX2 : Aside0 ((setK x n o).f0 = k ∧ (setK x n o).f7 = []) := ⟨by rw [setK_f0, setK_f7]; exact HX.out⟩
          obtain ⟨A3, hsl, hw3⟩ := words_tail WS.out cw (by omega)
          have WS3 := Aside0.mk hw3
          have US2 : Aside0 (r.length ≤ ws.length ∧ ∀ t ∈ r, t ∈ ws) := ⟨by have h1 := US.out.1; have h2 := US.out.2; simp only [List.length_cons] at h1; exact ⟨by omega, fun q hq => h2 q (List.mem_cons_of_mem _ hq)⟩⟩
          have hcw3 : r.length ≤ cw - 1 := by omega
          have HCW3 := Aside0.mk hcw3
          clear hn hw3 hcw3
          go_wp2_with (go_at_call 58; refine (number_yes t n HN.out _ HLW.out HTS.out).mono ?_; rintro e w3 ⟨rfl, hb⟩; have NB := Aside0.mk hb; clear hb; have BG3 := Aside0.mk (blk_below BG.out NB.out); have x4 : w3.cell? ⟨g, o, none⟩ = some (.int .i64 (getK x o)) := (blk_cell BG3.out o).trans (ev_get x _ o HO6.out.1 HO6.out.2); have x5 : w3.frozen? ⟨g, o, none⟩ = false := Lib.frozen_of_heap BG3.out o)
          have FR3 := Aside0.mk (fr_set (FR.out.trans (Fr.of_below (NB.out.mono FR.out.size))) o (.int .i64 n))
          have BG4 : Aside0 ((w3.setCell ⟨g, o, none⟩ (.int .i64 n)).heap[g]? = some (.cells (evC (setK x n o) (.slice none 0 0)) 24 (0, 0))) := ⟨blk_put BG3.out o _ (setK_cells x _ n o HO6.out.1 HO6.out.2)⟩
          have WS4 := Aside0.mk ((WS3.out.below NB.out).fr (base := w3.heap.size) (w' := w3.setCell ⟨g, o, none⟩ (.int .i64 n)) (fr_set ⟨rfl, rfl, rfl, Nat.le_refl _, fun _ _ _ => rfl⟩ o _) (Nat.le_refl _))
          go_roundw
          case rel => exact ⟨a + 1, A3, cw - 1, r, setK x n o, by go_num, by omega, rfl, HCW3.out, WS4, US2, HF2, HX2, BG4, FR3⟩
          case measure => simp [intOf]; omega
    · obtain rfl : a = (atK k).length := by omega
      have HF2 : Aside0 (fillNums (atK k) ws ⟨k, 0, 0, 0, 0, 0, 0, []⟩ = some (x, us)) := ⟨by rw [HF.out, List.drop_length]; rfl⟩
      have FRW := Aside0.mk ((Fr.of_below HWL.out).trans (FR.out.mono HWL.out.size))
      have z3 : wr.cell? ⟨g4, 3, none⟩ = some (.slice none 0 0) := (blk_cell (FR.out.blk BF.out (Nat.le_refl _) NF.out) 3).trans rfl
      clear HF ha hlt
      have HFO : Aside0 (fillOf k ws = fillRest (x, us)) := ⟨by unfold fillOf; rw [HF2.out]; simp only [Option.bind_some]; rw [show fillWord k (x, us) = some (x, us) by unfold fillWord; rw [HCL.out]; rfl]; rfl⟩
      go_wp2_with (fail)
      obtain ⟨wl2, rfl⟩ : ∃ wl2 : World, wl2 = wr := ⟨_, rfl⟩
      clear z3 HF2
      have UL : Aside0 (us.length ≤ 4294967296) := ⟨Nat.le_trans US.out.1 HLEN.out⟩
      have GL2 := Aside0.mk (blk_lt BG.out)
      go_loopw [77] (fun i wr => ∃ (a : Nat) (ns : List Int) (un : Value), i = .int .i64 a ∧ a ≤ us.length ∧ Aside0 (numsIn us = (numsIn (us.drop a)).map (ns ++ ·)) ∧ Aside0 (ns.length = a) ∧ Aside0 (wr.heap[g]? = some (.cells (evC x un) 24 (0, 0))) ∧ Aside0 (Kd.R (Kd.int .i64) 3 wr wl2.heap.size (fun k => wl2.heap.size ≤ k) un ns) ∧ Aside0 (Fr wl2.heap.size g wl2 wr)) (fun i _ => us.length - (intOf i).toNat)
      case atStart => exact ⟨0, [], _, rfl, by omega, ⟨by rw [List.drop_zero]; cases numsIn us <;> simp⟩, ⟨rfl⟩, BG, ⟨Kd.R_nil _ _ _ _ _⟩, ⟨⟨rfl, rfl, rfl, Nat.le_refl _, fun _ _ _ => rfl⟩⟩⟩
      case round =>
        clear BG
        obtain ⟨a, ns, un, rfl, ha, HN, HNL, BG, HO, FR2⟩ := hrel
        have hul := UL.out
        have FRX := Aside0.mk (FRW.out.trans (FR2.out.mono FRW.out.size))
        obtain ⟨Au, cu, rfl⟩ := Kd.R_slice HO.out
        by_cases hlt : a < us.length
        · obtain ⟨t, ht⟩ : ∃ t, us[a]? = some t := ⟨_, List.getElem?_eq_getElem hlt⟩
          obtain ⟨adw, hAw, hcw⟩ := WS.out.2 a t ht
          have had := WS.out.1 adw hAw
          subst hAw
          have x1 : wr.cell? (adw.add a) = some (.string t) := FR2.out.cell hcw (Nat.le_refl _) (by rw [add_block]; exact had)
          have HTS := Aside0.mk (HSZ.out t (US.out.2 t (List.mem_of_getElem? ht)))
          have HLW : Aside0 (LW wr) := ⟨HL.out.below (HB0.out.trans (FRX.out.below HB0.out.size HG0.out))⟩
          have HDR := Aside0.mk (nums_some ht)
          clear hcw had ht
          cases hn : numOf t with
          | none =>
            have HNN := Aside0.mk hn
            have HR : Aside0 (fillOf k ws = none) := ⟨by rw [HFO.out]; unfold fillRest; simp only; rw [HN.out, HDR.out, numsIn, HNN.out]; rfl⟩
            clear hn
            go_wp2_with (go_at_call 58; refine (number_no t HNN.out _ HLW.out HTS.out).mono ?_; rintro e w3 ⟨⟨v3, rfl⟩, hb⟩; have NB := Aside0.mk hb; clear hb)
            go_ret
            rw [HR.out]
            exact ⟨rfl, ⟨_, _, _, _, blk_below BG.out NB.out⟩, FRX.out.trans (Fr.of_below (NB.out.mono FRX.out.size))⟩
          | some n =>
            have HNN := Aside0.mk hn
            have HN2 : Aside0 (numsIn us = (numsIn (us.drop (a + 1))).map ((ns ++ [n]) ++ ·)) := ⟨by rw [HN.out, HDR.out, numsIn, HNN.out]; cases numsIn (us.drop (a + 1)) <;> simp⟩
            have HTL : Aside0 ((ns.length + 1) * 8 ≤ 140737488355328) := ⟨by rw [HNL.out]; omega⟩
            clear hn
            go_wp2_with (first
              | (go_at_call 58; refine (number_yes t n HNN.out _ HLW.out HTS.out).mono ?_; rintro e w3 ⟨rfl, hb⟩; have NB := Aside0.mk hb; clear hb; have BG3 := Aside0.mk (blk_below BG.out NB.out); have HO3 := Aside0.mk (Kd.R_below HO.out NB.out); have x7 : w3.cell? ⟨g, 7, none⟩ = some (.slice Au ns.length cu) := (blk_cell BG3.out 7).trans rfl)
              | ((with_reducible refine gate_builtin (b := .append) (xs := #[.tmp 92, .tmp 94]) rfl ?_); at_builtin; refine Kd.R_append (Kd.int .i64) (w0 := w3) wl2.heap.size rfl (.tmp 92) (.tmp 94) 22 3 (.int .i64 0) 8 rfl Tryd.underlying22 info3 rfl (by decide) (by omega) (.slice Au ns.length cu) ns n [.int .i64 n] (fun k => wl2.heap.size ≤ k) (fun _ => False) rfl rfl rfl (fun _ h => h.elim) (fun k hk => Nat.le_trans (Nat.le_trans FR2.out.size NB.out.size) hk) HO3.out (Below.refl _ _) (Nat.le_trans FR2.out.size NB.out.size) HTL.out ?_; intro v4 w4 ho hb _ _; obtain ⟨Av, cv, rfl⟩ := Kd.R_slice ho; have HO4 := Aside0.mk ho; have NB4 := Aside0.mk hb; clear ho hb; have BG4 : Aside0 (w4.heap[g]? = some (.cells (evC x (.slice Au ns.length cu)) 24 (0, 0))) := ⟨(NB4.out.block g GL2.out).trans BG3.out⟩; have x8 : w4.cell? ⟨g, 7, none⟩ = some (.slice Au ns.length cu) := (blk_cell BG4.out 7).trans rfl; have x9 : w4.frozen? ⟨g, 7, none⟩ = false := Lib.frozen_of_heap BG4.out 7))
            have HO5 : Aside0 (Kd.R (Kd.int .i64) 3 (w4.setCell ⟨g, 7, none⟩ (.slice Av (ns ++ [n]).length cv)) wl2.heap.size (fun k => wl2.heap.size ≤ k) (.slice Av (ns ++ [n]).length cv) (ns ++ [n])) := ⟨Kd.R_far HO4.out (fun k hk => Nat.ne_of_gt (Nat.lt_of_lt_of_le GL2.out hk)) _⟩
            have BG5 : Aside0 ((w4.setCell ⟨g, 7, none⟩ (.slice Av (ns ++ [n]).length cv)).heap[g]? = some (.cells (evC x (.slice Av (ns ++ [n]).length cv)) 24 (0, 0))) := ⟨blk_put BG4.out 7 _ rfl⟩
            have FR5 := Aside0.mk (fr_set ((FR2.out.trans (Fr.of_below (NB.out.mono FR2.out.size))).trans (Fr.of_below NB4.out)) 7 (.slice Av (ns ++ [n]).length cv))
            simp only [List.length_append, List.length_cons, List.length_nil, Nat.zero_add] at HO5 BG5 FR5
            go_roundw
            case rel => exact ⟨a + 1, ns ++ [n], _, by go_num, by omega, HN2, ⟨by rw [List.length_append, HNL.out]; rfl⟩, BG5, HO5, FR5⟩
            case measure => simp [intOf]; omega
        · obtain rfl : a = us.length := by omega
          have HNS : Aside0 (numsIn us = some ns) := ⟨by rw [HN.out, List.drop_length]; simp [numsIn]⟩
          obtain ⟨_, hcu, hC⟩ := Kd.R_reads' HO.out
          have HC := Aside0.mk hC
          have HCU := Aside0.mk hcu
          obtain ⟨y, hy⟩ : ∃ y : S24, y = ⟨x.f0, x.f1, x.f2, x.f3, x.f4, x.f5, x.f6, ns⟩ := ⟨_, rfl⟩
          have HY := Aside0.mk hy
          clear hC hcu hy hlt ha
          cases hok : okX y with
          | true =>
            have HCK : Aside0 (checkOf ⟨x.f0, x.f1, x.f2, x.f3, x.f4, x.f5, x.f6, ns⟩ = 0) := ⟨by rw [← HY.out, checkOf_ok, hok]; rfl⟩
            have HR : Aside0 (fillOf k ws = some y) := ⟨by rw [HFO.out]; unfold fillRest; simp only; rw [HNS.out]; simp only [Option.bind_some]; rw [← HY.out, if_pos hok]⟩
            clear hok
            go_wp2_with (first
              | (refine wpList_load_row rfl 24 (.tmp 100) rfl g rfl 24 (evC x (.slice Au ns.length cu)) (0, 0) _ BG.out Tryd.underlying24 rfl (by kernel_rfl) ?_)
              | (go_at_call 10; refine (chk_any ⟨x.f0, x.f1, x.f2, x.f3, x.f4, x.f5, x.f6, ns⟩ Au cu _ HC.out HCU.out).mono ?_; rw [HCK.out]; rintro e w5 ⟨rfl, hb⟩; have NB := Aside0.mk hb; clear hb))
            go_ret
            rw [HR.out]
            exact ⟨rfl, ⟨_, by rw [HY.out]; exact blk_below BG.out NB.out, by rw [HY.out]; exact Kd.R_mono (Kd.R_lower (Kd.R_below HO.out NB.out) FRW.out.size) (fun k hk => Nat.le_trans FRW.out.size hk)⟩, FRX.out.trans (Fr.of_below (NB.out.mono FRX.out.size))⟩
          | false =>
            have HCK : Aside0 (checkOf ⟨x.f0, x.f1, x.f2, x.f3, x.f4, x.f5, x.f6, ns⟩ = 180) := ⟨by rw [← HY.out, checkOf_ok, hok]; rfl⟩
            have HR : Aside0 (fillOf k ws = none) := ⟨by rw [HFO.out]; unfold fillRest; simp only; rw [HNS.out]; simp only [Option.bind_some]; rw [← HY.out, if_neg (by rw [hok]; decide)]⟩
            clear hok
            go_wp2_with (first
              | (refine wpList_load_row rfl 24 (.tmp 100) rfl g rfl 24 (evC x (.slice Au ns.length cu)) (0, 0) _ BG.out Tryd.underlying24 rfl (by kernel_rfl) ?_)
              | (go_at_call 10; refine (chk_any ⟨x.f0, x.f1, x.f2, x.f3, x.f4, x.f5, x.f6, ns⟩ Au cu _ HC.out HCU.out).mono ?_; rw [HCK.out]; rintro e w5 ⟨rfl, hb⟩; have NB := Aside0.mk hb; clear hb))
            go_ret
            rw [HR.out]
            exact ⟨rfl, ⟨_, _, _, _, blk_below BG.out NB.out⟩, FRX.out.trans (Fr.of_below (NB.out.mono FRX.out.size))⟩
set_option maxRecDepth 100000 in
set_option maxHeartbeats 16000000 in
theorem fill_c2 (k : Nat) (h1 : 1 ≤ k) (h2 : k ≤ 11) (hc : clsK k = 2) (g : Nat) (AF A2 : Option Addr) (c2 : Nat) (bW : Nat) (ws : List ByteArray) (w w0 : World) (hL : LW w0) (hB0 : Below w0.heap.size w0 w) (hg0 : w0.heap.size ≤ g) (hg : w.heap[g]? = some (.cells (evC ⟨k, 0, 0, 0, 0, 0, 0, []⟩ (.slice none 0 0)) 24 (0, 0)))
    (hF : ∀ (j o : Nat), (foK k)[j]? = some o → ∃ ad, AF = some ad ∧ ad.block ≠ g ∧ w.cell? (ad.add j) = some (.pointer (some ⟨g, o, none⟩))) (hW : w.heap[bW]? = some (.cells ((wsK k).map Value.string).toArray 9 (0, 0))) (hWg : bW ≠ g) (hws : WordsIn w g A2 ws) (hcap : ws.length ≤ c2) (hlen : ws.length ≤ 4294967296) (hsz : ∀ t ∈ ws, t.size ≤ 281474976710656) :
    Calls Tryd.prog 49 #[.pointer (some ⟨g, 0, none⟩), .agg #[.string (wordB k), .slice AF (foK k).length (foK k).length, .pointer none, .slice (some ⟨bW, 0, none⟩) (wsK k).length (wsK k).length, .pointer (some ⟨g, 6, none⟩), .bool false], .slice A2 ws.length c2] w (FillSays w g (fillOf k ws)) := by
  have hu24 := Tryd.underlying24
  have hu48 := Tryd.underlying48
  have hu46 := Tryd.underlying46
  have HL := Aside0.mk hL
  have HB0 := Aside0.mk hB0
  have HG0 := Aside0.mk hg0
  have HCL := Aside0.mk hc
  have HLEN := Aside0.mk hlen
  have HSZ := Aside0.mk hsz
  have hfl := fo_len k
  have GW := Aside0.mk (blk_lt hg)
  have BG0 := Aside0.mk (blk_below hg (bel1 w (.cells #[.string (wordB k), .slice AF (foK k).length (foK k).length, .pointer none, .slice (some ⟨bW, 0, none⟩) (wsK k).length (wsK k).length, .pointer (some ⟨g, 6, none⟩), .bool false] 48)))
  have FF0 := Aside0.mk (fun j o hj => by obtain ⟨ad, e1, e2, e3⟩ := hF j o hj; exact ⟨ad, e1, e2, pw_cell_below (bel1 w (.cells #[.string (wordB k), .slice AF (foK k).length (foK k).length, .pointer none, .slice (some ⟨bW, 0, none⟩) (wsK k).length (wsK k).length, .pointer (some ⟨g, 6, none⟩), .bool false] 48)) e3⟩ : ∀ (j o : Nat), (foK k)[j]? = some o → ∃ ad, AF = some ad ∧ ad.block ≠ g ∧ (w.alloc (.cells #[.string (wordB k), .slice AF (foK k).length (foK k).length, .pointer none, .slice (some ⟨bW, 0, none⟩) (wsK k).length (wsK k).length, .pointer (some ⟨g, 6, none⟩), .bool false] 48)).cell? (ad.add j) = some (.pointer (some ⟨g, o, none⟩)))
  have WS0 := Aside0.mk (hws.below (bel1 w (.cells #[.string (wordB k), .slice AF (foK k).length (foK k).length, .pointer none, .slice (some ⟨bW, 0, none⟩) (wsK k).length (wsK k).length, .pointer (some ⟨g, 6, none⟩), .bool false] 48)))
  have BW0 := Aside0.mk (blk_below hW (bel1 w (.cells #[.string (wordB k), .slice AF (foK k).length (foK k).length, .pointer none, .slice (some ⟨bW, 0, none⟩) (wsK k).length (wsK k).length, .pointer (some ⟨g, 6, none⟩), .bool false] 48)))
  have NW := Aside0.mk hWg
  clear hW hWg
  have BF0 := Aside0.mk (heap_alloc_new w (.cells #[.string (wordB k), .slice AF (foK k).length (foK k).length, .pointer none, .slice (some ⟨bW, 0, none⟩) (wsK k).length (wsK k).length, .pointer (some ⟨g, 6, none⟩), .bool false] 48))
  have NF := Aside0.mk (show w.heap.size ≠ g from Nat.ne_of_gt (blk_lt hg))
  have HZ := Aside0.mk (bel1 w (.cells #[.string (wordB k), .slice AF (foK k).length (foK k).length, .pointer none, .slice (some ⟨bW, 0, none⟩) (wsK k).length (wsK k).length, .pointer (some ⟨g, 6, none⟩), .bool false] 48))
  have GZ := Aside0.mk (show g < (w.alloc (.cells #[.string (wordB k), .slice AF (foK k).length (foK k).length, .pointer none, .slice (some ⟨bW, 0, none⟩) (wsK k).length (wsK k).length, .pointer (some ⟨g, 6, none⟩), .bool false] 48)).heap.size by have := blk_lt hg; rw [size_alloc]; omega)
  have HCAP := Aside0.mk hcap
  clear hL hB0 hg0 hc hlen hsz hg hF hws hcap
  go_enter Tryd.func49, Tryd.ntmps49
  go_upto_region 2 with (fail)
  generalize w.heap.size = g4 at BF0 NF ⊢
  generalize w.alloc (.cells #[.string (wordB k), .slice AF (foK k).length (foK k).length, .pointer none, .slice (some ⟨bW, 0, none⟩) (wsK k).length (wsK k).length, .pointer (some ⟨g, 6, none⟩), .bool false] 48) = wz at *
  have y1 : wz.cell? ⟨g4, 1, none⟩ = some (.slice AF (foK k).length (foK k).length) := (blk_cell BF0.out 1).trans rfl
  have y2 : wz.cell? ⟨g4, 2, none⟩ = some (.pointer none) := (blk_cell BF0.out 2).trans rfl
  have KC := Aside0.mk (kp_C (by omega) FF0.out)
  obtain ⟨v0, hv0⟩ : ∃ v, v = Value.slice none 0 0 := ⟨_, rfl⟩
  rw [← hv0]
  have HV0 : Aside0 (Kd.R (kp g) 45 wz wz.heap.size (fun _ => True) v0 []) := ⟨by rw [hv0]; exact Kd.R_nil _ _ _ _ _⟩
  clear hv0
  go_wp2_with (first
    | ((with_reducible refine gate_builtin (b := .append) (xs := #[.tmp 16, .tmp 18]) rfl ?_); at_builtin; refine Kd.R_append_rows (kp g) (w0 := wz) wz.heap.size rfl (.tmp 16) (.tmp 18) 44 45 (.pointer none) 8 rfl Tryd.underlying44 info45 rfl Nat.one_pos (by omega) v0 ([] : List Nat) (foK k) AF (foK k).length (foK k).length (fun _ => True) (fun _ => False) rfl rfl HV0.out KC.out (fun _ _ h => h) (fun _ h => h.elim) (fun _ _ => trivial) (Below.refl _ _) (Nat.le_refl _) (by simp only [List.length_nil]; omega) ?_; intro v7 wl ho hb _ _; obtain ⟨Av, cv, rfl⟩ := Kd.R_slice ho; have HO := Aside0.mk ho; have HB1 := Aside0.mk hb; clear ho hb; have z2 : wl.cell? ⟨g4, 2, none⟩ = some (.pointer none) := cell_keep BF0.out HB1.out rfl))
  have HAT : Aside0 (Kd.R (kp g) 45 wl wz.heap.size (fun _ => True) (.slice Av ([] ++ foK k).length cv) (atK k)) := ⟨by have h := HO.out; rw [show atK k = [] ++ foK k by unfold atK; rw [HCL.out]; simp]; exact h⟩
  obtain ⟨Aa, ca, hva, hat⟩ := kp_at HAT.out GZ.out
  have hvl : (foK k).length = (atK k).length := by rw [show atK k = [] ++ foK k by unfold atK; rw [HCL.out]; simp]; simp
  have hvm : ([] ++ foK k).length = (atK k).length := by rw [show atK k = [] ++ foK k by unfold atK; rw [HCL.out]; simp]
  rw [hvm] at hva
  rw [hvl]
  (try rw [show ((foK k).length : Int) + 1 = ((atK k).length : Int) by omega])
  injection hva with hva1 _ hva3
  subst hva1 hva3
  clear hvm
  clear hvl
  have AT := Aside0.mk hat
  have HWL := Aside0.mk (HZ.out.trans (HB1.out.mono HZ.out.size))
  have BG := Aside0.mk (blk_below BG0.out HB1.out)
  have BF := Aside0.mk (blk_below BF0.out HB1.out)
  have WS := Aside0.mk (WS0.out.below HB1.out)
  have GL := Aside0.mk (blk_lt BG.out)
  have hal := at_len k
  have BW := Aside0.mk (blk_below BW0.out HB1.out)
  clear BW0
  clear hat HO HAT HV0 BG0 BF0 WS0 FF0 KC HB1 HZ y1 y2 z2
  go_loopw [2, 30] (fun v2 i wr => ∃ (a : Nat) (Aw : Option Addr) (cw : Nat) (us : List ByteArray) (x : S24), i = .int .i64 a ∧ a ≤ (atK k).length ∧ v2 = .slice Aw us.length cw ∧ us.length ≤ cw ∧ Aside0 (WordsIn wr g Aw us) ∧ Aside0 (us.length ≤ ws.length ∧ ∀ t ∈ us, t ∈ ws) ∧ Aside0 (fillNums (atK k) ws ⟨k, 0, 0, 0, 0, 0, 0, []⟩ = fillNums ((atK k).drop a) us x) ∧ Aside0 (x.f0 = k ∧ x.f7 = []) ∧ Aside0 (wr.heap[g]? = some (.cells (evC x (.slice none 0 0)) 24 (0, 0))) ∧ Aside0 (Fr wl.heap.size g wl wr)) (fun _ i _ => (atK k).length - (intOf i).toNat)
  case atStart => exact ⟨0, A2, c2, ws, _, rfl, by omega, rfl, HCAP.out, WS, ⟨Nat.le_refl _, fun _ h => h⟩, ⟨rfl⟩, ⟨rfl, rfl⟩, BG, ⟨⟨rfl, rfl, rfl, Nat.le_refl _, fun _ _ _ => rfl⟩⟩⟩
  case round =>
    clear BG WS
    obtain ⟨a, Aw, cw, us, x, rfl, ha, rfl, hcw, WS, US, HF, HX, BG, FR⟩ := hrel
    have hlm : us.length ≤ 4294967296 := Nat.le_trans US.out.1 HLEN.out
    by_cases hlt : a < (atK k).length
    · obtain ⟨o, ho⟩ : ∃ o, (atK k)[a]? = some o := ⟨_, List.getElem?_eq_getElem hlt⟩
      obtain ⟨ad1, hA1, hn1, hc1⟩ := AT.out a o ho
      subst hA1
      have HO6 := Aside0.mk (at_le k o (List.mem_of_getElem? ho))
      have HDR : Aside0 ((atK k).drop a = o :: (atK k).drop (a + 1)) := ⟨by obtain ⟨hl, rfl⟩ := List.getElem?_eq_some_iff.1 ho; exact List.drop_eq_getElem_cons hl⟩
      have x1 : wr.cell? (ad1.add a) = some (.pointer (some ⟨g, o, none⟩)) := FR.out.cell hc1 (Nat.le_refl _) (by rw [add_block]; exact hn1)
      have x2 : wr.cell? ⟨g, o, none⟩ = some (.int .i64 (getK x o)) := (blk_cell BG.out o).trans (ev_get x _ o HO6.out.1 HO6.out.2)
      clear hc1 hn1 ho
      cases us with
      | nil =>
        have HR : Aside0 (fillOf k ws = none) := ⟨by unfold fillOf; rw [HF.out, HDR.out]; rfl⟩
        simp only [List.length_nil] at hcw ⊢
        go_wp2_with (fail)
        go_ret
        rw [HR.out]
        exact ⟨rfl, ⟨_, _, _, _, BG.out⟩, (Fr.of_below HWL.out).trans (FR.out.mono HWL.out.size)⟩
      | cons t r =>
        simp only [List.length_cons] at hcw hlm ⊢
        obtain ⟨ad2, hA2, hw2⟩ := WS.out.2 0 t rfl
        subst hA2
        have x3 : wr.cell? ad2 = some (.string t) := hw2
        have HTS := Aside0.mk (HSZ.out t (US.out.2 t (List.mem_cons_self ..)))
        have FRW := Aside0.mk ((Fr.of_below HWL.out).trans (FR.out.mono HWL.out.size))
        have HLW : Aside0 (LW wr) := ⟨HL.out.below (HB0.out.trans (FRW.out.below HB0.out.size HG0.out))⟩
        cases hn : numOf t with
        | none =>
          have HN := Aside0.mk hn
          have HR : Aside0 (fillOf k ws = none) := ⟨by unfold fillOf; rw [HF.out, HDR.out, fillNums, HN.out]; rfl⟩
          clear hn
          go_wp2_with (go_at_call 58; refine (number_no t HN.out _ HLW.out HTS.out).mono ?_; rintro e w3 ⟨⟨v3, rfl⟩, hb⟩; have NB := Aside0.mk hb; clear hb)
          go_ret
          rw [HR.out]
          exact ⟨rfl, ⟨_, _, _, _, blk_below BG.out NB.out⟩, FRW.out.trans (Fr.of_below (NB.out.mono FRW.out.size))⟩
        | some n =>
          have HN := Aside0.mk hn
          have HF2 : Aside0 (fillNums (atK k) ws ⟨k, 0, 0, 0, 0, 0, 0, []⟩ = fillNums ((atK k).drop (a + 1)) r (setK x n o)) := ⟨by rw [HF.out, HDR.out, fillNums, HN.out]⟩
          have HX2 : Aside0 ((setK x n o).f0 = k ∧ (setK x n o).f7 = []) := ⟨by rw [setK_f0, setK_f7]; exact HX.out⟩
          obtain ⟨A3, hsl, hw3⟩ := words_tail WS.out cw (by omega)
          have WS3 := Aside0.mk hw3
          have US2 : Aside0 (r.length ≤ ws.length ∧ ∀ t ∈ r, t ∈ ws) := ⟨by have h1 := US.out.1; have h2 := US.out.2; simp only [List.length_cons] at h1; exact ⟨by omega, fun q hq => h2 q (List.mem_cons_of_mem _ hq)⟩⟩
          have hcw3 : r.length ≤ cw - 1 := by omega
          have HCW3 := Aside0.mk hcw3
          clear hn hw3 hcw3
          go_wp2_with (go_at_call 58; refine (number_yes t n HN.out _ HLW.out HTS.out).mono ?_; rintro e w3 ⟨rfl, hb⟩; have NB := Aside0.mk hb; clear hb; have BG3 := Aside0.mk (blk_below BG.out NB.out); have x4 : w3.cell? ⟨g, o, none⟩ = some (.int .i64 (getK x o)) := (blk_cell BG3.out o).trans (ev_get x _ o HO6.out.1 HO6.out.2); have x5 : w3.frozen? ⟨g, o, none⟩ = false := Lib.frozen_of_heap BG3.out o)
          have FR3 := Aside0.mk (fr_set (FR.out.trans (Fr.of_below (NB.out.mono FR.out.size))) o (.int .i64 n))
          have BG4 : Aside0 ((w3.setCell ⟨g, o, none⟩ (.int .i64 n)).heap[g]? = some (.cells (evC (setK x n o) (.slice none 0 0)) 24 (0, 0))) := ⟨blk_put BG3.out o _ (setK_cells x _ n o HO6.out.1 HO6.out.2)⟩
          have WS4 := Aside0.mk ((WS3.out.below NB.out).fr (base := w3.heap.size) (w' := w3.setCell ⟨g, o, none⟩ (.int .i64 n)) (fr_set ⟨rfl, rfl, rfl, Nat.le_refl _, fun _ _ _ => rfl⟩ o _) (Nat.le_refl _))
          go_roundw
          case rel => exact ⟨a + 1, A3, cw - 1, r, setK x n o, by go_num, by omega, rfl, HCW3.out, WS4, US2, HF2, HX2, BG4, FR3⟩
          case measure => simp [intOf]; omega
    · obtain rfl : a = (atK k).length := by omega
      have HF2 : Aside0 (fillNums (atK k) ws ⟨k, 0, 0, 0, 0, 0, 0, []⟩ = some (x, us)) := ⟨by rw [HF.out, List.drop_length]; rfl⟩
      have FRW := Aside0.mk ((Fr.of_below HWL.out).trans (FR.out.mono HWL.out.size))
      have z3 : wr.cell? ⟨g4, 3, none⟩ = some (.slice (some ⟨bW, 0, none⟩) (wsK k).length (wsK k).length) := (blk_cell (FR.out.blk BF.out (Nat.le_refl _) NF.out) 3).trans rfl
      clear HF ha hlt
      have HWX : Aside0 (wsK k = wsK k) := ⟨rfl⟩
      cases us with
      | nil =>
        have HR : Aside0 (fillOf k ws = none) := ⟨by unfold fillOf; rw [HF2.out]; simp only [Option.bind_some]; rw [show fillWord k (x, []) = none by unfold fillWord; rw [HCL.out]; rfl]; rfl⟩
        simp only [List.length_nil] at hcw ⊢
        go_wp2_with (fail)
        go_ret
        rw [HR.out]
        exact ⟨rfl, ⟨_, _, _, _, BG.out⟩, FRW.out⟩
      | cons t r =>
        simp only [List.length_cons] at hcw hlm ⊢
        obtain ⟨ad2, hA2, hw2⟩ := WS.out.2 0 t rfl
        subst hA2
        have x3 : wr.cell? ad2 = some (.string t) := hw2
        by_cases hte : t.toList = []
        · have HR : Aside0 (fillOf k ws = none) := ⟨by unfold fillOf; rw [HF2.out]; simp only [Option.bind_some]; rw [show fillWord k (x, t :: r) = none by unfold fillWord; rw [HCL.out]; simp only; rw [if_pos True.intro, if_pos hte]]; rfl⟩
          have hte2 : t.toList.isEmpty = true := by rw [hte]; rfl
          clear hw2
          go_wp2_with (fail)
          go_ret
          rw [HR.out]
          exact ⟨rfl, ⟨_, _, _, _, BG.out⟩, FRW.out⟩
        · obtain ⟨n, hn⟩ : ∃ n, n = idxB (wsK k) t 0 := ⟨_, rfl⟩
          have HFO : Aside0 (fillOf k ws = fillRest (setK x n 6, r)) := ⟨by unfold fillOf; rw [HF2.out]; simp only [Option.bind_some]; rw [show fillWord k (x, t :: r) = some (setK x n 6, r) by unfold fillWord; rw [HCL.out]; simp only; rw [if_pos True.intro, if_neg hte, hn]]; rfl⟩
          have HNI := Aside0.mk hn
          have hte2 : t.toList.isEmpty = false := by cases h : t.toList with | nil => exact absurd h hte | cons _ _ => rfl
          have HX2 : Aside0 ((setK x n 6).f0 = k ∧ (setK x n 6).f7 = []) := ⟨by rw [setK_f0, setK_f7]; exact HX.out⟩
          obtain ⟨A3, hsl, hw3⟩ := words_tail WS.out cw (by omega)
          have WS3 := Aside0.mk hw3
          have US2 : Aside0 (r.length ≤ ws.length ∧ ∀ t ∈ r, t ∈ ws) := ⟨by have h1 := US.out.1; have h2 := US.out.2; simp only [List.length_cons] at h1; exact ⟨by omega, fun q hq => h2 q (List.mem_cons_of_mem _ hq)⟩⟩
          have BWR := Aside0.mk (FR.out.blk BW.out (Nat.le_refl _) NW.out)
          have z4 : wr.cell? ⟨g4, 4, none⟩ = some (.pointer (some ⟨g, 6, none⟩)) := (blk_cell (FR.out.blk BF.out (Nat.le_refl _) NF.out) 4).trans rfl
          have x6 : wr.cell? ⟨g, 6, none⟩ = some (.int .i64 x.f6) := (blk_cell BG.out 6).trans rfl
          have HWN := Aside0.mk (ws_len k)
          have XWS : Aside0 (wr.cell? ad2 = some (.string t)) := ⟨x3⟩
          clear hw2 hw3 hn hte
          go_wp2_with (fail)
          go_cut [2] (fun v2 wc => v2 = .slice (some ad2) (r.length + 1) cw ∧ Aside0 (wc.heap[g]? = some (.cells (evC (setK x n 6) (.slice none 0 0)) 24 (0, 0))) ∧ Aside0 (Fr wr.heap.size g wr wc))
          case first =>
            go_region_with (go_at_call 59; refine (index_any bW (wsK k) t _ HWN.out (by exact BWR.out)).mono ?_; rw [← HNI.out]; rintro e w5 ⟨rfl, hd⟩; have NB := Aside0.mk hd.below; have x3' : w5.cell? ad2 = some (.string t) := pw_cell_below hd.below XWS.out; have z4' : w5.cell? ⟨g4, 4, none⟩ = some (.pointer (some ⟨g, 6, none⟩)) := pw_cell_below hd.below z4; have x6' : w5.cell? ⟨g, 6, none⟩ = some (.int .i64 x.f6) := pw_cell_below hd.below x6; have BG5 := Aside0.mk (blk_below (w := wr.drew) BG.out hd.below); have f6' : w5.frozen? ⟨g, 6, none⟩ = false := Lib.frozen_of_heap BG5.out 6; clear hd)
            all_goals go_wp2_with (fail)
            all_goals go_meet
            all_goals exact ⟨rfl, ⟨blk_put (w := w5) BG5.out 6 _ rfl⟩, ⟨fr_set (w1 := w5) (Fr.of_below (show Below wr.heap.size wr w5 from ⟨NB.out.os, NB.out.tape, NB.out.output, NB.out.size, NB.out.block⟩)) 6 (.int .i64 n)⟩⟩
          case rest =>
            obtain ⟨rfl, BG2, FR2⟩ := hcut
            have FRW2 := Aside0.mk (FRW.out.trans (FR2.out.mono FRW.out.size))
            have WSN := Aside0.mk (WS3.out.fr FR2.out (Nat.le_refl _))
            clear BG FRW WS US z3 z4 x3 x6 hte2
            have BG := BG2
            have FRW := FRW2
            have WS := WSN
            have US := US2
            obtain ⟨x', hx'⟩ : ∃ x', x' = setK x n 6 := ⟨_, rfl⟩
            rw [← hx'] at BG HFO HX2 BG2
            clear hx' BG2 FRW2 WSN US2 FR2
            go_wp2_with (fail)
            obtain ⟨wl2, rfl⟩ : ∃ wl2 : World, wl2 = wc := ⟨_, rfl⟩
            have UL : Aside0 (r.length ≤ 4294967296) := ⟨Nat.le_trans US.out.1 HLEN.out⟩
            have GL2 := Aside0.mk (blk_lt BG.out)
            go_loopw [77] (fun i wr => ∃ (a : Nat) (ns : List Int) (un : Value), i = .int .i64 a ∧ a ≤ r.length ∧ Aside0 (numsIn r = (numsIn (r.drop a)).map (ns ++ ·)) ∧ Aside0 (ns.length = a) ∧ Aside0 (wr.heap[g]? = some (.cells (evC x' un) 24 (0, 0))) ∧ Aside0 (Kd.R (Kd.int .i64) 3 wr wl2.heap.size (fun k => wl2.heap.size ≤ k) un ns) ∧ Aside0 (Fr wl2.heap.size g wl2 wr)) (fun i _ => r.length - (intOf i).toNat)
            case atStart => exact ⟨0, [], _, rfl, by omega, ⟨by rw [List.drop_zero]; cases numsIn r <;> simp⟩, ⟨rfl⟩, BG, ⟨Kd.R_nil _ _ _ _ _⟩, ⟨⟨rfl, rfl, rfl, Nat.le_refl _, fun _ _ _ => rfl⟩⟩⟩
            case round =>
              clear BG
              obtain ⟨a, ns, un, rfl, ha, HN, HNL, BG, HO, FR2⟩ := hrel
              have hul := UL.out
              have FRX := Aside0.mk (FRW.out.trans (FR2.out.mono FRW.out.size))
              obtain ⟨Au, cu, rfl⟩ := Kd.R_slice HO.out
              by_cases hlt : a < r.length
              · obtain ⟨t, ht⟩ : ∃ t, r[a]? = some t := ⟨_, List.getElem?_eq_getElem hlt⟩
                obtain ⟨adw, hAw, hcw⟩ := WS.out.2 a t ht
                have had := WS.out.1 adw hAw
                subst hAw
                have x1 : wr.cell? (adw.add a) = some (.string t) := FR2.out.cell hcw (Nat.le_refl _) (by rw [add_block]; exact had)
                have HTS := Aside0.mk (HSZ.out t (US.out.2 t (List.mem_of_getElem? ht)))
                have HLW : Aside0 (LW wr) := ⟨HL.out.below (HB0.out.trans (FRX.out.below HB0.out.size HG0.out))⟩
                have HDR := Aside0.mk (nums_some ht)
                clear hcw had ht
                cases hn : numOf t with
                | none =>
                  have HNN := Aside0.mk hn
                  have HR : Aside0 (fillOf k ws = none) := ⟨by rw [HFO.out]; unfold fillRest; simp only; rw [HN.out, HDR.out, numsIn, HNN.out]; rfl⟩
                  clear hn
                  go_wp2_with (go_at_call 58; refine (number_no t HNN.out _ HLW.out HTS.out).mono ?_; rintro e w3 ⟨⟨v3, rfl⟩, hb⟩; have NB := Aside0.mk hb; clear hb)
                  go_ret
                  rw [HR.out]
                  exact ⟨rfl, ⟨_, _, _, _, blk_below BG.out NB.out⟩, FRX.out.trans (Fr.of_below (NB.out.mono FRX.out.size))⟩
                | some n =>
                  have HNN := Aside0.mk hn
                  have HN2 : Aside0 (numsIn r = (numsIn (r.drop (a + 1))).map ((ns ++ [n]) ++ ·)) := ⟨by rw [HN.out, HDR.out, numsIn, HNN.out]; cases numsIn (r.drop (a + 1)) <;> simp⟩
                  have HTL : Aside0 ((ns.length + 1) * 8 ≤ 140737488355328) := ⟨by rw [HNL.out]; omega⟩
                  clear hn
                  go_wp2_with (first
                    | (go_at_call 58; refine (number_yes t n HNN.out _ HLW.out HTS.out).mono ?_; rintro e w3 ⟨rfl, hb⟩; have NB := Aside0.mk hb; clear hb; have BG3 := Aside0.mk (blk_below BG.out NB.out); have HO3 := Aside0.mk (Kd.R_below HO.out NB.out); have x7 : w3.cell? ⟨g, 7, none⟩ = some (.slice Au ns.length cu) := (blk_cell BG3.out 7).trans rfl)
                    | ((with_reducible refine gate_builtin (b := .append) (xs := #[.tmp 92, .tmp 94]) rfl ?_); at_builtin; refine Kd.R_append (Kd.int .i64) (w0 := w3) wl2.heap.size rfl (.tmp 92) (.tmp 94) 22 3 (.int .i64 0) 8 rfl Tryd.underlying22 info3 rfl (by decide) (by omega) (.slice Au ns.length cu) ns n [.int .i64 n] (fun k => wl2.heap.size ≤ k) (fun _ => False) rfl rfl rfl (fun _ h => h.elim) (fun k hk => Nat.le_trans (Nat.le_trans FR2.out.size NB.out.size) hk) HO3.out (Below.refl _ _) (Nat.le_trans FR2.out.size NB.out.size) HTL.out ?_; intro v4 w4 ho hb _ _; obtain ⟨Av, cv, rfl⟩ := Kd.R_slice ho; have HO4 := Aside0.mk ho; have NB4 := Aside0.mk hb; clear ho hb; have BG4 : Aside0 (w4.heap[g]? = some (.cells (evC x' (.slice Au ns.length cu)) 24 (0, 0))) := ⟨(NB4.out.block g GL2.out).trans BG3.out⟩; have x8 : w4.cell? ⟨g, 7, none⟩ = some (.slice Au ns.length cu) := (blk_cell BG4.out 7).trans rfl; have x9 : w4.frozen? ⟨g, 7, none⟩ = false := Lib.frozen_of_heap BG4.out 7))
                  have HO5 : Aside0 (Kd.R (Kd.int .i64) 3 (w4.setCell ⟨g, 7, none⟩ (.slice Av (ns ++ [n]).length cv)) wl2.heap.size (fun k => wl2.heap.size ≤ k) (.slice Av (ns ++ [n]).length cv) (ns ++ [n])) := ⟨Kd.R_far HO4.out (fun k hk => Nat.ne_of_gt (Nat.lt_of_lt_of_le GL2.out hk)) _⟩
                  have BG5 : Aside0 ((w4.setCell ⟨g, 7, none⟩ (.slice Av (ns ++ [n]).length cv)).heap[g]? = some (.cells (evC x' (.slice Av (ns ++ [n]).length cv)) 24 (0, 0))) := ⟨blk_put BG4.out 7 _ rfl⟩
                  have FR5 := Aside0.mk (fr_set ((FR2.out.trans (Fr.of_below (NB.out.mono FR2.out.size))).trans (Fr.of_below NB4.out)) 7 (.slice Av (ns ++ [n]).length cv))
                  simp only [List.length_append, List.length_cons, List.length_nil, Nat.zero_add] at HO5 BG5 FR5
                  go_roundw
                  case rel => exact ⟨a + 1, ns ++ [n], _, by go_num, by omega, HN2, ⟨by rw [List.length_append, HNL.out]; rfl⟩, BG5, HO5, FR5⟩
                  case measure => simp [intOf]; omega
              · obtain rfl : a = r.length := by omega
                have HNS : Aside0 (numsIn r = some ns) := ⟨by rw [HN.out, List.drop_length]; simp [numsIn]⟩
                obtain ⟨_, hcu, hC⟩ := Kd.R_reads' HO.out
                have HC := Aside0.mk hC
                have HCU := Aside0.mk hcu
                obtain ⟨y, hy⟩ : ∃ y : S24, y = ⟨x'.f0, x'.f1, x'.f2, x'.f3, x'.f4, x'.f5, x'.f6, ns⟩ := ⟨_, rfl⟩
                have HY := Aside0.mk hy
                clear hC hcu hy hlt ha
                cases hok : okX y with
                | true =>
                  have HCK : Aside0 (checkOf ⟨x'.f0, x'.f1, x'.f2, x'.f3, x'.f4, x'.f5, x'.f6, ns⟩ = 0) := ⟨by rw [← HY.out, checkOf_ok, hok]; rfl⟩
                  have HR : Aside0 (fillOf k ws = some y) := ⟨by rw [HFO.out]; unfold fillRest; simp only; rw [HNS.out]; simp only [Option.bind_some]; rw [← HY.out, if_pos hok]⟩
                  clear hok
                  go_wp2_with (first
                    | (refine wpList_load_row rfl 24 (.tmp 100) rfl g rfl 24 (evC x' (.slice Au ns.length cu)) (0, 0) _ BG.out Tryd.underlying24 rfl (by kernel_rfl) ?_)
                    | (go_at_call 10; refine (chk_any ⟨x'.f0, x'.f1, x'.f2, x'.f3, x'.f4, x'.f5, x'.f6, ns⟩ Au cu _ HC.out HCU.out).mono ?_; rw [HCK.out]; rintro e w5 ⟨rfl, hb⟩; have NB := Aside0.mk hb; clear hb))
                  go_ret
                  rw [HR.out]
                  exact ⟨rfl, ⟨_, by rw [HY.out]; exact blk_below BG.out NB.out, by rw [HY.out]; exact Kd.R_mono (Kd.R_lower (Kd.R_below HO.out NB.out) FRW.out.size) (fun k hk => Nat.le_trans FRW.out.size hk)⟩, FRX.out.trans (Fr.of_below (NB.out.mono FRX.out.size))⟩
                | false =>
                  have HCK : Aside0 (checkOf ⟨x'.f0, x'.f1, x'.f2, x'.f3, x'.f4, x'.f5, x'.f6, ns⟩ = 180) := ⟨by rw [← HY.out, checkOf_ok, hok]; rfl⟩
                  have HR : Aside0 (fillOf k ws = none) := ⟨by rw [HFO.out]; unfold fillRest; simp only; rw [HNS.out]; simp only [Option.bind_some]; rw [← HY.out, if_neg (by rw [hok]; decide)]⟩
                  clear hok
                  go_wp2_with (first
                    | (refine wpList_load_row rfl 24 (.tmp 100) rfl g rfl 24 (evC x' (.slice Au ns.length cu)) (0, 0) _ BG.out Tryd.underlying24 rfl (by kernel_rfl) ?_)
                    | (go_at_call 10; refine (chk_any ⟨x'.f0, x'.f1, x'.f2, x'.f3, x'.f4, x'.f5, x'.f6, ns⟩ Au cu _ HC.out HCU.out).mono ?_; rw [HCK.out]; rintro e w5 ⟨rfl, hb⟩; have NB := Aside0.mk hb; clear hb))
                  go_ret
                  rw [HR.out]
                  exact ⟨rfl, ⟨_, _, _, _, blk_below BG.out NB.out⟩, FRX.out.trans (Fr.of_below (NB.out.mono FRX.out.size))⟩
end Go.Proofs.YtiapfhlipoomaaaDoor.Given
end
