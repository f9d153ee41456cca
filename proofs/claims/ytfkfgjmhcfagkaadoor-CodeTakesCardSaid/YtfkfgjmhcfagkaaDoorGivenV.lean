/- The walk of CodeTakes. -/
import Derived.Test.YtfkfgjmhcfagkaaDoorGivenQ
import Derived.Test.YtfkfgjmhcfagkaaDoorPlainC
namespace Go.Proofs.YtfkfgjmhcfagkaaDoor.Given
open Go.RowKit Go.Proofs.YtfkfgjmhcfagkaaDoorW.PrintWords Go.Proofs.YtfkfgjmhcfagkaaDoorW.PrintLast Go.Proofs.YtfkfgjmhcfagkaaDoorW.PrintMore Go.Proofs.YtfkfgjmhcfagkaaDoor.Print
set_option linter.unusedVariables false
set_option linter.unusedSimpArgs false

theorem R_nums {w : World} {base gn n c : Nat} {ok : Nat → Prop} {l : List Int} (h : (Kd.int .i64).R 3 w base ok (.slice (some ⟨gn, 0, none⟩) n c) (l ++ [-77, -78])) :
    n = l.length + 2 ∧ l.length + 2 ≤ c ∧ Kd.C (Kd.int .i64) w (some ⟨gn, 0, none⟩) l.length l ∧ w.cell? ⟨gn, l.length, none⟩ = some (.int .i64 (-77)) ∧ w.cell? ⟨gn, l.length + 1, none⟩ = some (.int .i64 (-78)) := by
  obtain ⟨h1, h2, h3⟩ := Kd.R_reads' h
  have h4 : (l ++ [-77, -78]).length = l.length + 2 := by simp
  have ht := Kd.C_take h3 (m := l.length) (by simp)
  rw [List.take_left'  (by rfl)] at ht
  exact ⟨by omega, by omega, ht, num_cell h _ _ (by simp), num_cell h _ _ (by simp)⟩
theorem bel2 {w W W2 : World} (hb : Below W.heap.size W W2) (h : Below w.heap.size w W) : Below w.heap.size w W2 := below_then h h.size hb
theorem cel2 {W W0 W2 : World} {a : Addr} {v : Value} (hb : Below W.heap.size W W2) (he : W.heap = W0.heap) (h : W0.cell? a = some v) : W2.cell? a = some v := by
  have e : W.cell? a = W0.cell? a := by simp only [World.cell?, he]
  exact pw_cell_below hb (e.trans h)
theorem drawn_below {w w' : World} (h : Drawn0 w w') : Below w.heap.size w w' := by
  obtain ⟨m, rfl⟩ := h.out
  exact pw_below_drewN (Below.refl _ _) m
theorem R_lent {w : World} {base : Nat} {ok : Nat → Prop} {v : Value} {l : List Int} (h : (Kd.int .i64).R 3 w base ok v (l ++ [-77, -78])) :
    ∃ gl cl, v = .slice (some ⟨gl, 0, none⟩) (l.length + 2) cl ∧ (Kd.int .i64).R 3 w base ok (.slice (some ⟨gl, 0, none⟩) (l.length + 2) cl) (l ++ [-77, -78]) := by
  obtain ⟨gl, cl, rfl, _⟩ := Kd.R_form h (by simp)
  have hlen : (l ++ [-77, -78]).length = l.length + 2 := by simp
  rw [hlen] at h
  exact ⟨gl, cl, by rw [hlen], h⟩
set_option maxRecDepth 100000 in
set_option maxHeartbeats 4000000 in
theorem takes_walk (a0 a1 a2 : Int) (A : Option Addr) (c : Nat) (l : List Int) (w : World) (hL : LW w) (hr : Kd.C (Kd.int .i64) w A l.length l) (hc : l.length ≤ c) (ha : -9223372036854775808 ≤ a1 ∧ a1 ≤ 9223372036854775807) (hl : l.length ≤ 17592186043904) :
    Calls Tryd.prog 4 #[.agg #[.int .i64 a0, .int .i64 a1, .int .i64 a2, .slice A l.length c]] w fun e w' => e = .returned (.bool true) ∧ Below w.heap.size w w' := by
  have hu28 := Tryd.underlying28
  have HL := Aside0.mk hL
  have HC := Aside0.mk hr
  have HCC := Aside0.mk hc
  obtain ⟨rp, hp1, hp2⟩ := pops_eq a0 a1 a2 l ha (by omega)
  obtain ⟨rq, hq1, hq2⟩ := pushes_eq a0 a1 a2 l
  have P1 := Aside0.mk hp1
  have P2 := Aside0.mk hp2
  have Q1 := Aside0.mk hq1
  have Q2 := Aside0.mk hq2
  have HLL := Aside0.mk hl
  have hwl : wrap64 (l.length : Int) = (l.length : Int) := by simp only [wrap64]; omega
  have hw1 : wrap64 ((l.length : Int) + 1) = (l.length : Int) + 1 := by simp only [wrap64]; omega
  have hw2 : wrap64 (wrap64 (l.length : Int) + 1) = (l.length : Int) + 1 := by simp only [wrap64]; omega
  have hw3 : IntKind.i64.wrap ((l.length : Int) + 1) = (l.length : Int) + 1 := IntWalk.i64_in _ (by omega)
  have h14 : (0 : Int) ≤ (l.length : Int) + 1 ∧ (l.length : Int) + 1 < (l.length : Int) + 2 := by omega
  have h15 : ¬ ((l.length : Int) + 1 < 0) := by omega
  have h16 : ¬ ((l.length : Int) + 2 ≤ (l.length : Int) + 1) := by omega
  have h01 : (0 : Int) ≤ (l.length : Int) + 1 := by omega
  have h12 : (l.length : Int) + 1 < (l.length : Int) + 2 := by omega
  have h13 : ((l.length : Int) + 1).toNat = l.length + 1 := by omega
  clear hL hr hc hp1 hp2 hq1 hq2 ha hl
  go_enter Tryd.func4, Tryd.ntmps4
  go_wp2_with (first
    | ((with_reducible refine gate_dst (N := 1) rfl ?_); refine box_event ?hg (N := 1) ?hd (cs := #[.int .i64 a0, .int .i64 a1, .int .i64 a2, .slice A l.length c]) (t := 28) ?hr ?_; (case hd => rfl); (case hg => rfl); (case hr => first | (go_simp; done) | (go_simp; rfl)); intro g1 hg w1 hbox hb; have BK1 := Aside0.mk hbox; have HB := Aside0.mk hb; clear hg hbox hb)
    | (go_at_call 9; refine (shown_true _ (HL.out.below HB.out)).mono ?_; rintro e w2 ⟨rfl, hb⟩; have n1_ := Aside0.mk (blk_below BK1.out hb); have n3_ := Aside0.mk (below_then HB.out HB.out.size hb); clear BK1 HB; have BK1 := n1_; have HB := n3_; clear n1_ n3_; clear hb; have y0 : w2.cell? ⟨g1, 0, none⟩ = some (.int .i64 a0) := (blk_cell BK1.out 0).trans rfl; have y1 : w2.cell? ⟨g1, 1, none⟩ = some (.int .i64 a1) := (blk_cell BK1.out 1).trans rfl; have y2 : w2.cell? ⟨g1, 2, none⟩ = some (.int .i64 a2) := (blk_cell BK1.out 2).trans rfl; have y3 : w2.cell? ⟨g1, 3, none⟩ = some (.slice A l.length c) := (blk_cell BK1.out 3).trans rfl)
    | (go_at_call 14; refine (squintlaw08_lentInts.calls A c l _ _ (Kd.C_below HC.out HB.out) HCC.out (lent_eq l HLL.out)).mono ?_; rintro e w3 ⟨v3, rfl, ho, hb⟩; obtain ⟨gl, cl, rfl, ho2⟩ := R_lent ho; have HR := Aside0.mk ho2; have hcl := (R_nums ho2).2.1; clear y0 y1 y2 y3; have n1_ := Aside0.mk (blk_below BK1.out hb); have n3_ := Aside0.mk (below_then HB.out HB.out.size hb); clear BK1 HB; have BK1 := n1_; have HB := n3_; clear n1_ n3_; clear ho ho2 hb; have y0 : w3.cell? ⟨g1, 0, none⟩ = some (.int .i64 a0) := (blk_cell BK1.out 0).trans rfl; have y1 : w3.cell? ⟨g1, 1, none⟩ = some (.int .i64 a1) := (blk_cell BK1.out 1).trans rfl; have y2 : w3.cell? ⟨g1, 2, none⟩ = some (.int .i64 a2) := (blk_cell BK1.out 2).trans rfl; have y3 : w3.cell? ⟨g1, 3, none⟩ = some (.slice A l.length c) := (blk_cell BK1.out 3).trans rfl)
    | ((with_reducible refine gate_dst (N := 4) rfl ?_); refine box_event ?hg (N := 4) ?hd (cs := #[.int .i64 0, .int .i64 0, .int .i64 0, .slice none 0 0]) (t := 28) ?hr ?_; (case hd => rfl); (case hg => rfl); (case hr => first | (go_simp; done) | (go_simp; rfl)); intro g4 hg w4 hbox hb; have BK4 := Aside0.mk hbox; have GE4 := Aside0.mk (show w.heap.size ≤ g4 by rw [hg]; exact HB.out.size); have NE := Aside0.mk (show g1 ≠ g4 by rw [hg]; exact Nat.ne_of_lt (blk_lt BK1.out)); clear y0 y1 y2 y3; have n1_ := Aside0.mk (blk_below BK1.out hb); have n3_ := Aside0.mk (below_then HB.out HB.out.size hb); clear BK1 HB; have BK1 := n1_; have HB := n3_; clear n1_ n3_; have n5_ := Aside0.mk (Kd.R_below HR.out hb); clear HR; have HR := n5_; clear n5_ hg hbox hb; have y0 : w4.cell? ⟨g1, 0, none⟩ = some (.int .i64 a0) := (blk_cell BK1.out 0).trans rfl; have y1 : w4.cell? ⟨g1, 1, none⟩ = some (.int .i64 a1) := (blk_cell BK1.out 1).trans rfl; have y2 : w4.cell? ⟨g1, 2, none⟩ = some (.int .i64 a2) := (blk_cell BK1.out 2).trans rfl; have y3 : w4.cell? ⟨g1, 3, none⟩ = some (.slice A l.length c) := (blk_cell BK1.out 3).trans rfl)
    | (refine wpList_store_row rfl 28 (.tmp 4) (.tmp 13) rfl g4 #[.int .i64 a0, .int .i64 a1, .int .i64 a2, .slice A l.length c] rfl rfl 28 _ BK4.out (by kernel_rfl) rfl (by kernel_rfl) ?_; have n0_ : Aside0 ((w4.setRow g4 #[.int .i64 a0, .int .i64 a1, .int .i64 a2, .slice A l.length c]).heap[g4]? = some (.cells #[.int .i64 a0, .int .i64 a1, .int .i64 a2, .slice A l.length c] 28 (0, 0))) := ⟨setRow_heap _ _ _ _ _ _ BK4.out⟩; have n1_ : Aside0 ((w4.setRow g4 #[.int .i64 a0, .int .i64 a1, .int .i64 a2, .slice A l.length c]).heap[g1]? = some (.cells #[.int .i64 a0, .int .i64 a1, .int .i64 a2, .slice A l.length c] 28 (0, 0))) := ⟨(setRow_other _ _ _ _ NE.out).trans BK1.out⟩; have n3_ := Aside0.mk (below_setRow HB.out GE4.out #[.int .i64 a0, .int .i64 a1, .int .i64 a2, .slice A l.length c]); have n5_ := Aside0.mk (R_setRow HR.out BK4.out (by decide) (cs' := #[.int .i64 a0, .int .i64 a1, .int .i64 a2, .slice A l.length c])); generalize w4.setRow g4 #[.int .i64 a0, .int .i64 a1, .int .i64 a2, .slice A l.length c] = w5 at n0_ n1_ n3_ n5_ ⊢; clear BK4 BK1 HB HR y0 y1 y2 y3; have BK4 := n0_; have BK1 := n1_; have HB := n3_; have HR := n5_; clear n0_ n1_ n3_ n5_; have zf := blk_frozen BK4.out 3; have z3 : w5.cell? ⟨g4, 3, none⟩ = some (.slice A l.length c) := (blk_cell BK4.out 3).trans rfl)
    | (refine store_event rfl rfl rfl (by first | (go_simp; done) | (go_simp; rfl)) ?_; intro wy hy; have n0_ : Aside0 (wy.heap[g4]? = some (.cells #[.int .i64 a0, .int .i64 a1, .int .i64 a2, .slice (some ⟨gl, 0, none⟩) l.length cl] 28 (0, 0))) := ⟨by rw [hy]; exact blk_put (cs := #[.int .i64 a0, .int .i64 a1, .int .i64 a2, .slice A l.length c]) BK4.out 3 (.slice (some ⟨gl, 0, none⟩) l.length cl) rfl⟩; have n1_ : Aside0 (wy.heap[g1]? = some (.cells #[.int .i64 a0, .int .i64 a1, .int .i64 a2, .slice A l.length c] 28 (0, 0))) := ⟨by rw [hy]; exact blk_far BK1.out (p := ⟨g4, 3, none⟩) NE.out (.slice (some ⟨gl, 0, none⟩) l.length cl)⟩; have n3_ : Aside0 (Below w.heap.size w wy) := ⟨by rw [hy]; exact below_set (g := g4) (j := 3) (v := .slice (some ⟨gl, 0, none⟩) l.length cl) HB.out GE4.out⟩; have n5_ : Aside0 ((Kd.int .i64).R 3 wy _ (fun _ => True) (.slice (some ⟨gl, 0, none⟩) (l.length + 2) cl) (l ++ [-77, -78])) := ⟨by rw [hy]; exact Kd.R_set HR.out BK4.out (by decide) 3 (.slice (some ⟨gl, 0, none⟩) l.length cl)⟩; clear hy BK4 BK1 HB HR zf z3; have BK4 := n0_; have BK1 := n1_; have HB := n3_; have HR := n5_; clear n0_ n1_ n3_ n5_; have y0 : wy.cell? ⟨g4, 0, none⟩ = some (.int .i64 a0) := (blk_cell BK4.out 0).trans rfl; have y1 : wy.cell? ⟨g4, 1, none⟩ = some (.int .i64 a1) := (blk_cell BK4.out 1).trans rfl; have y2 : wy.cell? ⟨g4, 2, none⟩ = some (.int .i64 a2) := (blk_cell BK4.out 2).trans rfl; have y3 : wy.cell? ⟨g4, 3, none⟩ = some (.slice (some ⟨gl, 0, none⟩) l.length cl) := (blk_cell BK4.out 3).trans rfl)
    | (go_at_call 15; refine (code_Pops.calls (l.length + 5) a0 a1 a2 (some ⟨gl, 0, none⟩) cl l rp _ (R_nums HR.out).2.2.1 (by omega) P1.out).mono ?_; rintro e wp ⟨rfl, hb⟩; clear y0 y1 y2 y3; have n1_ := Aside0.mk (blk_below BK1.out hb); have n3_ := Aside0.mk (below_then HB.out HB.out.size hb); clear BK1 HB; have BK1 := n1_; have HB := n3_; clear n1_ n3_; have n4_ := Aside0.mk (blk_below BK4.out hb); have n5_ := Aside0.mk (Kd.R_below HR.out hb); clear BK4 HR; have BK4 := n4_; have HR := n5_; clear n4_ n5_; clear hb; have y0 : wp.cell? ⟨g4, 0, none⟩ = some (.int .i64 a0) := (blk_cell BK4.out 0).trans rfl; have y1 : wp.cell? ⟨g4, 1, none⟩ = some (.int .i64 a1) := (blk_cell BK4.out 1).trans rfl; have y2 : wp.cell? ⟨g4, 2, none⟩ = some (.int .i64 a2) := (blk_cell BK4.out 2).trans rfl; have y3 : wp.cell? ⟨g4, 3, none⟩ = some (.slice (some ⟨gl, 0, none⟩) l.length cl) := (blk_cell BK4.out 3).trans rfl)
    | (go_at_call 16; refine (code_Pushes.calls 5 a0 a1 a2 (some ⟨gl, 0, none⟩) cl l rq _ (R_nums HR.out).2.2.1 (by omega) Q1.out).mono ?_; rintro e wq ⟨rfl, hb⟩; clear y0 y1 y2 y3; have n1_ := Aside0.mk (blk_below BK1.out hb); have n3_ := Aside0.mk (below_then HB.out HB.out.size hb); clear BK1 HB; have BK1 := n1_; have HB := n3_; clear n1_ n3_; have n4_ := Aside0.mk (blk_below BK4.out hb); have n5_ := Aside0.mk (Kd.R_below HR.out hb); clear BK4 HR; have BK4 := n4_; have HR := n5_; clear n4_ n5_; clear hb; have y0 : wq.cell? ⟨g1, 0, none⟩ = some (.int .i64 a0) := (blk_cell BK1.out 0).trans rfl; have y1 : wq.cell? ⟨g1, 1, none⟩ = some (.int .i64 a1) := (blk_cell BK1.out 1).trans rfl; have y2 : wq.cell? ⟨g1, 2, none⟩ = some (.int .i64 a2) := (blk_cell BK1.out 2).trans rfl; have y3 : wq.cell? ⟨g1, 3, none⟩ = some (.slice A l.length c) := (blk_cell BK1.out 3).trans rfl)
    )
  have e77 := (R_nums HR.out).2.2.2.1
  have e78 := (R_nums HR.out).2.2.2.2
  have HG := Aside0.mk (R_nums HR.out).2.2.1
  have hsame := Aside0.mk (same_self l (by have := HLL.out; omega))
  go_region_with (first
    | (go_at_call 17; refine (squintref08_Pops.calls (l.length + 5) a0 a1 a2 A c l rp _ (Kd.C_below HC.out (by first | exact HB.out | exact below_drew1 HB.out)) HCC.out P2.out).mono ?_; rintro e wr ⟨rfl, hb⟩; have nb_ := Aside0.mk (bel2 hb (by first | exact HB.out | exact below_drew1 HB.out)); have ng_ : Aside0 (Kd.C (Kd.int .i64) _ (some ⟨gl, 0, none⟩) l.length l) := ⟨Kd.C_below (by first | exact HG.out | exact Kd.C_drew HG.out) hb⟩; have y0_ := cel2 hb rfl y0; have y1_ := cel2 hb rfl y1; have y2_ := cel2 hb rfl y2; have y3_ := cel2 hb rfl y3; have e77_ := cel2 hb rfl e77; have e78_ := cel2 hb rfl e78; clear HB HG y0 y1 y2 y3 e77 e78 hb; have HB := nb_; have HG := ng_; have y0 := y0_; have y1 := y1_; have y2 := y2_; have y3 := y3_; have e77 := e77_; have e78 := e78_; clear nb_ ng_ y0_ y1_ y2_ y3_ e77_ e78_)
    | (go_at_call 18; refine (squintref08_Pushes.calls 5 a0 a1 a2 A c l rq _ (Kd.C_below HC.out (by first | exact HB.out | exact below_drew1 HB.out)) HCC.out Q2.out).mono ?_; rintro e ws ⟨rfl, hb⟩; have nb_ := Aside0.mk (bel2 hb (by first | exact HB.out | exact below_drew1 HB.out)); have ng_ : Aside0 (Kd.C (Kd.int .i64) _ (some ⟨gl, 0, none⟩) l.length l) := ⟨Kd.C_below (by first | exact HG.out | exact Kd.C_drew HG.out) hb⟩; have y0_ := cel2 hb rfl y0; have y1_ := cel2 hb rfl y1; have y2_ := cel2 hb rfl y2; have y3_ := cel2 hb rfl y3; have e77_ := cel2 hb rfl e77; have e78_ := cel2 hb rfl e78; clear HB HG y0 y1 y2 y3 e77 e78 hb; have HB := nb_; have HG := ng_; have y0 := y0_; have y1 := y1_; have y2 := y2_; have y3 := y3_; have e77 := e77_; have e78 := e78_; clear nb_ ng_ y0_ y1_ y2_ y3_ e77_ e78_)
    | (go_at_call 19; refine (squintlaw08_sameInts.calls (l.length + 1) (some ⟨gl, 0, none⟩) cl l A c l true _ (by first | exact HG.out | exact Kd.C_drew HG.out) (by omega) (Kd.C_below HC.out (by first | exact HB.out | exact below_drew1 HB.out)) HCC.out hsame.out).mono ?_; rintro e wt ⟨rfl, hd⟩; have hb := drawn_below hd; clear hd; have nb_ := Aside0.mk (bel2 hb (by first | exact HB.out | exact below_drew1 HB.out)); have ng_ : Aside0 (Kd.C (Kd.int .i64) _ (some ⟨gl, 0, none⟩) l.length l) := ⟨Kd.C_below (by first | exact HG.out | exact Kd.C_drew HG.out) hb⟩; have y0_ := cel2 hb rfl y0; have y1_ := cel2 hb rfl y1; have y2_ := cel2 hb rfl y2; have y3_ := cel2 hb rfl y3; have e77_ := cel2 hb rfl e77; have e78_ := cel2 hb rfl e78; clear HB HG y0 y1 y2 y3 e77 e78 hb; have HB := nb_; have HG := ng_; have y0 := y0_; have y1 := y1_; have y2 := y2_; have y3 := y3_; have e77 := e77_; have e78 := e78_; clear nb_ ng_ y0_ y1_ y2_ y3_ e77_ e78_))
  all_goals first
    | (go_wp2; go_returns; exact ⟨rfl, HB.out⟩)
    | (exfalso; omega)
end Go.Proofs.YtfkfgjmhcfagkaaDoor.Given
