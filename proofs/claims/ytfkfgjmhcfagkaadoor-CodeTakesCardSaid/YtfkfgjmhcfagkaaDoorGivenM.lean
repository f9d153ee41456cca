/- code.one at the word of an operation. -/
import Derived.Test.YtfkfgjmhcfagkaaDoorGivenL
import Derived.Handy
namespace Go.Proofs.YtfkfgjmhcfagkaaDoor.Given
open Go.RowKit Go.Proofs.YtfkfgjmhcfagkaaDoorW.PrintWords Go.Proofs.YtfkfgjmhcfagkaaDoorW.PrintLast Go.Proofs.YtfkfgjmhcfagkaaDoorW.PrintMore Go.Proofs.YtfkfgjmhcfagkaaDoor.Print
set_option linter.unusedVariables false
set_option linter.unusedSimpArgs false
theorem num_at {w : World} {A : Option Addr} {n : Nat} {ns : List Int} (h : Kd.C (Kd.int .i64) w A n ns) (j : Nat) (x : Int) (hx : ns[j]? = some x) : ∃ ad, A = some ad ∧ w.cell? (ad.add j) = some (.int .i64 x) := by
  have hl := (List.getElem?_eq_some_iff.1 hx).1
  obtain ⟨ad, e, hc⟩ := Kd.at_int h (j : Int) (by omega) (by have := Kd.C_len h; omega)
  rw [Int.toNat_natCast] at hc
  refine ⟨ad, e, ?_⟩
  rw [hc]
  simp [rd, hx]
theorem num_at0 {w : World} {A : Option Addr} {n : Nat} {ns : List Int} (h : Kd.C (Kd.int .i64) w A n ns) (x : Int) (hx : ns[0]? = some x) : ∃ ad, A = some ad ∧ w.cell? ad = some (.int .i64 x) := num_at h 0 x hx
/-- Where the slice behind the first element begins. -/
def tailA (A : Option Addr) (c : Nat) : Option Addr := if c = 1 then A else A.map (·.add 1)
/-- The slice behind its first element. -/
theorem slice_one (A : Option Addr) (n c : Nat) (hn : n + 1 ≤ c) : ∃ A1 c1, (∀ W : World, (Instr.slice 26 (.slice A (n + 1) c) (some (.int .i64 1)) none none).run Tryd.prog W = .ok (.slice A1 n c1) W) ∧
    Aside0 (A1 = tailA A c ∧ c1 = c - 1) := by
  obtain ⟨i0, hi0, _, hsz, _⟩ := info_parts info3
  have h := cut_from (P := Tryd.prog) 26 3 .i64 Tryd.underlying26 hi0 1 hsz A (n + 1) c 1 (by omega) (by omega)
  refine ⟨_, _, fun W => ?_, ⟨rfl, rfl⟩⟩
  have := h W
  simpa [tailA] using this
set_option maxRecDepth 100000 in
set_option maxHeartbeats 4000000 in
theorem one_h0 (t : ByteArray) (k : Nat) (A : Option Addr) (c : Nat) (n : Nat) (ns : List Int) (w : World) (hr : Kd.C (Kd.int .i64) w A n (ns)) (hc : n ≤ c) (h : opOf t = k) (h1 : 1 ≤ k) (h2 : k ≤ 27) (hh : hasAt k = 0) :
    Calls Tryd.prog 62 #[.string t, .slice A n c] w fun e w' => e = .returned (.tuple #[.agg #[.int .i64 k, .int .i64 0, .int .i64 0, .slice none 0 0], .bool ((n : Int) == 0)]) ∧ Below w.heap.size w w' := by
  have hu28 := Tryd.underlying28
  have hix := fun W => index_at W k (by omega)
  rw [hh] at hix
  have hfd := field_has (nameAt k) 0
  have hk0 : ((k : Int) == 0) = false := by simp; omega
  have HO := Aside0.mk h
  have HR := Aside0.mk hr
  clear h hh hr
  go_enter Tryd.func62, Tryd.ntmps62
  go_wp2_with (first
    | ((with_reducible refine gate_dst (N := 4) rfl ?_); refine box_event ?hg (N := 4) ?hd (cs := #[.int .i64 0, .int .i64 0, .int .i64 0, .slice none 0 0]) (t := 28) ?hr ?_; (case hd => rfl); (case hg => rfl); (case hr => first | (go_simp; done) | (go_simp; rfl)); intro g4 hg w2 hbox hb; have BK4 := Aside0.mk hbox; have HB := Aside0.mk hb; have GE4 := Aside0.mk (Nat.le_of_eq hg.symm); clear hg hbox hb)
    | (go_at_call 11; refine (op_any t _).mono ?_; rw [HO.out]; rintro e w3 ⟨rfl, hb⟩; have n1_ := Aside0.mk (blk_below BK4.out hb); have n3_ := Aside0.mk (below_then HB.out HB.out.size hb); clear BK4 HB hb; have BK4 := n1_; have HB := n3_; clear n1_ n3_)
    | ((with_reducible refine gate_dst (N := 6) rfl ?_); refine box_event ?hg (N := 6) ?hd (cs := #[.int .i64 0, .int .i64 0, .int .i64 0, .slice none 0 0]) (t := 28) ?hr ?_; (case hd => rfl); (case hg => rfl); (case hr => first | (go_simp; done) | (go_simp; rfl)); intro g6 hg w4 hbox hb; have BK6 := Aside0.mk hbox; have GE6 := Aside0.mk (show w.heap.size ≤ g6 by rw [hg]; exact HB.out.size); have NE := Aside0.mk (show g4 ≠ g6 by rw [hg]; exact Nat.ne_of_lt (blk_lt BK4.out)); have n1_ := Aside0.mk (blk_below BK4.out hb); have n3_ := Aside0.mk (below_then HB.out HB.out.size hb); clear BK4 HB; have BK4 := n1_; have HB := n3_; clear n1_ n3_ hg hbox hb)
    | (refine wpList_store_row rfl 28 (.tmp 6) (.tmp 12) rfl g6 #[.int .i64 k, .int .i64 0, .int .i64 0, .slice none 0 0] rfl rfl 28 _ BK6.out (by kernel_rfl) rfl (by kernel_rfl) ?_; have n0_ : Aside0 ((w4.setRow g6 #[.int .i64 k, .int .i64 0, .int .i64 0, .slice none 0 0]).heap[g6]? = some (.cells #[.int .i64 k, .int .i64 0, .int .i64 0, .slice none 0 0] 28 (0, 0))) := ⟨setRow_heap _ _ _ _ _ _ BK6.out⟩; have n2_ : Aside0 ((w4.setRow g6 #[.int .i64 k, .int .i64 0, .int .i64 0, .slice none 0 0]).heap[g4]? = some (.cells #[.int .i64 0, .int .i64 0, .int .i64 0, .slice none 0 0] 28 (0, 0))) := ⟨(setRow_other _ _ _ _ NE.out).trans BK4.out⟩; have n1_ := Aside0.mk (below_setRow HB.out GE6.out #[.int .i64 k, .int .i64 0, .int .i64 0, .slice none 0 0]); generalize w4.setRow g6 #[.int .i64 k, .int .i64 0, .int .i64 0, .slice none 0 0] = w5 at n0_ n1_ n2_ ⊢; clear BK4 BK6 HB; have BK6 := n0_; have BK4 := n2_; have HB := n1_; clear n0_ n1_ n2_; have y0 : w5.cell? ⟨g6, 0, none⟩ = some (.int .i64 k) := (blk_cell BK6.out 0).trans rfl; have y1 : w5.cell? ⟨g6, 1, none⟩ = some (.int .i64 0) := (blk_cell BK6.out 1).trans rfl; have y2 : w5.cell? ⟨g6, 2, none⟩ = some (.int .i64 0) := (blk_cell BK6.out 2).trans rfl; have y3 : w5.cell? ⟨g6, 3, none⟩ = some (.slice none 0 0) := (blk_cell BK6.out 3).trans rfl))
  clear y1 y2 y3
  go_cut [7] (fun v7 wc => v7 = .int .i64 0 ∧ Aside0 (wc.heap[g6]? = some (.cells #[.int .i64 k, .int .i64 0, .int .i64 0, .slice none 0 0] 28 (0, 0))) ∧ Aside0 (wc.heap[g4]? = some (.cells #[.int .i64 0, .int .i64 0, .int .i64 0, .slice none 0 0] 28 (0, 0))) ∧ Aside0 (Below w.heap.size w wc))
  case first =>
    have y1 : ∀ o : Obj, (w5.alloc o).cell? ⟨g6, 0, none⟩ = some (.int .i64 k) := fun o => pw_cell_below (below_alloc (Below.refl _ w5) o) y0
    go_region_with (go_at_call 31; refine (table_any _).mono ?_; rintro e w2 ⟨rfl, rfl⟩)
    all_goals go_wp2_with (fail)
    all_goals go_meet
    all_goals exact ⟨rfl, ⟨blk_below BK6.out (below_drew (below_alloc (Below.refl _ _) _))⟩, ⟨blk_below BK4.out (below_drew (below_alloc (Below.refl _ _) _))⟩, ⟨below_then HB.out HB.out.size (below_drew (below_alloc (Below.refl _ _) _))⟩⟩
  case rest =>
    obtain ⟨rfl, BK6, BK4, HB⟩ := hcut
    go_wp2_with (fail)
    have BKP := Aside0.mk (blk_new wc (.cells #[.int .i64 1, .pointer (some ⟨g6, 1, none⟩), .int .i64 2, .pointer (some ⟨g6, 2, none⟩)] 105))
    have GP := Aside0.mk (show g6 ≠ wc.heap.size from Nat.ne_of_lt (blk_lt BK6.out))
    have n0_ := Aside0.mk (blk_below BK6.out (below_alloc (Below.refl _ wc) (.cells #[.int .i64 1, .pointer (some ⟨g6, 1, none⟩), .int .i64 2, .pointer (some ⟨g6, 2, none⟩)] 105)))
    have n1_ := Aside0.mk (blk_below BK4.out (below_alloc (Below.refl _ wc) (.cells #[.int .i64 1, .pointer (some ⟨g6, 1, none⟩), .int .i64 2, .pointer (some ⟨g6, 2, none⟩)] 105)))
    have n2_ := Aside0.mk (below_then HB.out HB.out.size (below_alloc (Below.refl _ wc) (.cells #[.int .i64 1, .pointer (some ⟨g6, 1, none⟩), .int .i64 2, .pointer (some ⟨g6, 2, none⟩)] 105)))
    generalize wc.heap.size = gp at BKP GP ⊢
    generalize wc.alloc (.cells #[.int .i64 1, .pointer (some ⟨g6, 1, none⟩), .int .i64 2, .pointer (some ⟨g6, 2, none⟩)] 105) = w8 at BKP n0_ n1_ n2_ ⊢
    clear BK6 BK4 HB
    have BK6 := n0_
    have BK4 := n1_
    have HB := n2_
    clear n0_ n1_ n2_
    refine wp_loop_rounds 3 ?_
    rw [rounds_succ]
    have p0 : w8.cell? ⟨gp, 0, none⟩ = some (.int .i64 1) := (blk_cell BKP.out 0).trans rfl
    have p1 : w8.cell? ⟨gp, 1, none⟩ = some (.pointer (some ⟨g6, 1, none⟩)) := (blk_cell BKP.out 1).trans rfl
    go_wp2_with (fail)
    have n0_ := Aside0.mk (blk_below BK6.out (below_alloc (Below.refl _ w8) (.cells #[.int .i64 1, .pointer (some ⟨g6, 1, none⟩)] 105)))
    have n1_ := Aside0.mk (blk_below BK4.out (below_alloc (Below.refl _ w8) (.cells #[.int .i64 1, .pointer (some ⟨g6, 1, none⟩)] 105)))
    have n3_ := Aside0.mk (blk_below BKP.out (below_alloc (Below.refl _ w8) (.cells #[.int .i64 1, .pointer (some ⟨g6, 1, none⟩)] 105)))
    have n2_ := Aside0.mk (below_then HB.out HB.out.size (below_alloc (Below.refl _ w8) (.cells #[.int .i64 1, .pointer (some ⟨g6, 1, none⟩)] 105)))
    generalize w8.alloc (.cells #[.int .i64 1, .pointer (some ⟨g6, 1, none⟩)] 105) = w9 at n0_ n1_ n2_ n3_ ⊢
    clear BK6 BK4 HB BKP p0 p1
    have BK6 := n0_
    have BK4 := n1_
    have HB := n2_
    have BKP := n3_
    clear n0_ n1_ n2_ n3_
    rw [rounds_succ]
    have p2 : w9.cell? ⟨gp, 2, none⟩ = some (.int .i64 2) := (blk_cell BKP.out 2).trans rfl
    have p3 : w9.cell? ⟨gp, 3, none⟩ = some (.pointer (some ⟨g6, 2, none⟩)) := (blk_cell BKP.out 3).trans rfl
    go_wp2_with (fail)
    have n0_ := Aside0.mk (blk_below BK6.out (below_alloc (Below.refl _ w9) (.cells #[.int .i64 2, .pointer (some ⟨g6, 2, none⟩)] 105)))
    have n1_ := Aside0.mk (blk_below BK4.out (below_alloc (Below.refl _ w9) (.cells #[.int .i64 2, .pointer (some ⟨g6, 2, none⟩)] 105)))
    have n3_ := Aside0.mk (blk_below BKP.out (below_alloc (Below.refl _ w9) (.cells #[.int .i64 2, .pointer (some ⟨g6, 2, none⟩)] 105)))
    have n2_ := Aside0.mk (below_then HB.out HB.out.size (below_alloc (Below.refl _ w9) (.cells #[.int .i64 2, .pointer (some ⟨g6, 2, none⟩)] 105)))
    generalize w9.alloc (.cells #[.int .i64 2, .pointer (some ⟨g6, 2, none⟩)] 105) = w12 at n0_ n1_ n2_ n3_ ⊢
    clear BK6 BK4 HB BKP p2 p3
    have BK6 := n0_
    have BK4 := n1_
    have HB := n2_
    have BKP := n3_
    clear n0_ n1_ n2_ n3_
    rw [rounds_succ]
    have y0 : w12.cell? ⟨g6, 0, none⟩ = some (.int .i64 k) := (blk_cell BK6.out 0).trans rfl
    have y1 : w12.cell? ⟨g6, 1, none⟩ = some (.int .i64 0) := (blk_cell BK6.out 1).trans rfl
    have y2 : w12.cell? ⟨g6, 2, none⟩ = some (.int .i64 0) := (blk_cell BK6.out 2).trans rfl
    have y3 : w12.cell? ⟨g6, 3, none⟩ = some (.slice none 0 0) := (blk_cell BK6.out 3).trans rfl
    go_wp2_with (first | (refine wpList_store_row rfl 28 (.tmp 4) (.tmp 56) rfl g4 #[.int .i64 k, .int .i64 0, .int .i64 0, .slice none 0 0] rfl rfl 28 _ BK4.out (by kernel_rfl) rfl (by kernel_rfl) ?_; have n9_ : Aside0 ((w12.setRow g4 #[.int .i64 k, .int .i64 0, .int .i64 0, .slice none 0 0]).heap[g4]? = some (.cells #[.int .i64 k, .int .i64 0, .int .i64 0, .slice none 0 0] 28 (0, 0))) := ⟨setRow_heap _ _ _ _ _ _ BK4.out⟩; have n8_ := Aside0.mk (below_setRow HB.out GE4.out #[.int .i64 k, .int .i64 0, .int .i64 0, .slice none 0 0]); generalize w12.setRow g4 #[.int .i64 k, .int .i64 0, .int .i64 0, .slice none 0 0] = wz at n9_ n8_ ⊢))
    refine bodyPost_ret (results_ct rfl _ _ g4 28 #[.int .i64 k, .int .i64 0, .int .i64 0, .slice none 0 0] (0, 0) _ rfl n9_.out Tryd.underlying28 rfl (by kernel_rfl)) rfl ?_
    exact ⟨rfl, n8_.out⟩
set_option maxRecDepth 100000 in
set_option maxHeartbeats 4000000 in
theorem one_h4 (t : ByteArray) (k : Nat) (A : Option Addr) (c : Nat) (n : Nat) (ns : List Int) (w : World) (hr : Kd.C (Kd.int .i64) w A n (ns)) (hc : n ≤ c) (h : opOf t = k) (h1 : 1 ≤ k) (h2 : k ≤ 27) (hh : hasAt k = 4) :
    Calls Tryd.prog 62 #[.string t, .slice A n c] w fun e w' => e = .returned (.tuple #[.agg #[.int .i64 k, .int .i64 0, .int .i64 0, .slice A n c], .bool true]) ∧ Below w.heap.size w w' := by
  have hu28 := Tryd.underlying28
  have hix := fun W => index_at W k (by omega)
  rw [hh] at hix
  have hfd := field_has (nameAt k) 4
  have hk0 : ((k : Int) == 0) = false := by simp; omega
  have HO := Aside0.mk h
  have HR := Aside0.mk hr
  clear h hh hr
  go_enter Tryd.func62, Tryd.ntmps62
  go_wp2_with (first
    | ((with_reducible refine gate_dst (N := 4) rfl ?_); refine box_event ?hg (N := 4) ?hd (cs := #[.int .i64 0, .int .i64 0, .int .i64 0, .slice none 0 0]) (t := 28) ?hr ?_; (case hd => rfl); (case hg => rfl); (case hr => first | (go_simp; done) | (go_simp; rfl)); intro g4 hg w2 hbox hb; have BK4 := Aside0.mk hbox; have HB := Aside0.mk hb; have GE4 := Aside0.mk (Nat.le_of_eq hg.symm); clear hg hbox hb)
    | (go_at_call 11; refine (op_any t _).mono ?_; rw [HO.out]; rintro e w3 ⟨rfl, hb⟩; have n1_ := Aside0.mk (blk_below BK4.out hb); have n3_ := Aside0.mk (below_then HB.out HB.out.size hb); clear BK4 HB hb; have BK4 := n1_; have HB := n3_; clear n1_ n3_)
    | ((with_reducible refine gate_dst (N := 6) rfl ?_); refine box_event ?hg (N := 6) ?hd (cs := #[.int .i64 0, .int .i64 0, .int .i64 0, .slice none 0 0]) (t := 28) ?hr ?_; (case hd => rfl); (case hg => rfl); (case hr => first | (go_simp; done) | (go_simp; rfl)); intro g6 hg w4 hbox hb; have BK6 := Aside0.mk hbox; have GE6 := Aside0.mk (show w.heap.size ≤ g6 by rw [hg]; exact HB.out.size); have NE := Aside0.mk (show g4 ≠ g6 by rw [hg]; exact Nat.ne_of_lt (blk_lt BK4.out)); have n1_ := Aside0.mk (blk_below BK4.out hb); have n3_ := Aside0.mk (below_then HB.out HB.out.size hb); clear BK4 HB; have BK4 := n1_; have HB := n3_; clear n1_ n3_ hg hbox hb)
    | (refine wpList_store_row rfl 28 (.tmp 6) (.tmp 12) rfl g6 #[.int .i64 k, .int .i64 0, .int .i64 0, .slice none 0 0] rfl rfl 28 _ BK6.out (by kernel_rfl) rfl (by kernel_rfl) ?_; have n0_ : Aside0 ((w4.setRow g6 #[.int .i64 k, .int .i64 0, .int .i64 0, .slice none 0 0]).heap[g6]? = some (.cells #[.int .i64 k, .int .i64 0, .int .i64 0, .slice none 0 0] 28 (0, 0))) := ⟨setRow_heap _ _ _ _ _ _ BK6.out⟩; have n2_ : Aside0 ((w4.setRow g6 #[.int .i64 k, .int .i64 0, .int .i64 0, .slice none 0 0]).heap[g4]? = some (.cells #[.int .i64 0, .int .i64 0, .int .i64 0, .slice none 0 0] 28 (0, 0))) := ⟨(setRow_other _ _ _ _ NE.out).trans BK4.out⟩; have n1_ := Aside0.mk (below_setRow HB.out GE6.out #[.int .i64 k, .int .i64 0, .int .i64 0, .slice none 0 0]); generalize w4.setRow g6 #[.int .i64 k, .int .i64 0, .int .i64 0, .slice none 0 0] = w5 at n0_ n1_ n2_ ⊢; clear BK4 BK6 HB; have BK6 := n0_; have BK4 := n2_; have HB := n1_; clear n0_ n1_ n2_; have y0 : w5.cell? ⟨g6, 0, none⟩ = some (.int .i64 k) := (blk_cell BK6.out 0).trans rfl; have y1 : w5.cell? ⟨g6, 1, none⟩ = some (.int .i64 0) := (blk_cell BK6.out 1).trans rfl; have y2 : w5.cell? ⟨g6, 2, none⟩ = some (.int .i64 0) := (blk_cell BK6.out 2).trans rfl; have y3 : w5.cell? ⟨g6, 3, none⟩ = some (.slice none 0 0) := (blk_cell BK6.out 3).trans rfl))
  clear y1 y2 y3
  go_cut [7] (fun v7 wc => v7 = .int .i64 4 ∧ Aside0 (wc.heap[g6]? = some (.cells #[.int .i64 k, .int .i64 0, .int .i64 0, .slice none 0 0] 28 (0, 0))) ∧ Aside0 (wc.heap[g4]? = some (.cells #[.int .i64 0, .int .i64 0, .int .i64 0, .slice none 0 0] 28 (0, 0))) ∧ Aside0 (Below w.heap.size w wc))
  case first =>
    have y1 : ∀ o : Obj, (w5.alloc o).cell? ⟨g6, 0, none⟩ = some (.int .i64 k) := fun o => pw_cell_below (below_alloc (Below.refl _ w5) o) y0
    go_region_with (go_at_call 31; refine (table_any _).mono ?_; rintro e w2 ⟨rfl, rfl⟩)
    all_goals go_wp2_with (fail)
    all_goals go_meet
    all_goals exact ⟨rfl, ⟨blk_below BK6.out (below_drew (below_alloc (Below.refl _ _) _))⟩, ⟨blk_below BK4.out (below_drew (below_alloc (Below.refl _ _) _))⟩, ⟨below_then HB.out HB.out.size (below_drew (below_alloc (Below.refl _ _) _))⟩⟩
  case rest =>
    obtain ⟨rfl, BK6, BK4, HB⟩ := hcut
    go_wp2_with (fail)
    have BKP := Aside0.mk (blk_new wc (.cells #[.int .i64 1, .pointer (some ⟨g6, 1, none⟩), .int .i64 2, .pointer (some ⟨g6, 2, none⟩)] 105))
    have GP := Aside0.mk (show g6 ≠ wc.heap.size from Nat.ne_of_lt (blk_lt BK6.out))
    have n0_ := Aside0.mk (blk_below BK6.out (below_alloc (Below.refl _ wc) (.cells #[.int .i64 1, .pointer (some ⟨g6, 1, none⟩), .int .i64 2, .pointer (some ⟨g6, 2, none⟩)] 105)))
    have n1_ := Aside0.mk (blk_below BK4.out (below_alloc (Below.refl _ wc) (.cells #[.int .i64 1, .pointer (some ⟨g6, 1, none⟩), .int .i64 2, .pointer (some ⟨g6, 2, none⟩)] 105)))
    have n2_ := Aside0.mk (below_then HB.out HB.out.size (below_alloc (Below.refl _ wc) (.cells #[.int .i64 1, .pointer (some ⟨g6, 1, none⟩), .int .i64 2, .pointer (some ⟨g6, 2, none⟩)] 105)))
    generalize wc.heap.size = gp at BKP GP ⊢
    generalize wc.alloc (.cells #[.int .i64 1, .pointer (some ⟨g6, 1, none⟩), .int .i64 2, .pointer (some ⟨g6, 2, none⟩)] 105) = w8 at BKP n0_ n1_ n2_ ⊢
    clear BK6 BK4 HB
    have BK6 := n0_
    have BK4 := n1_
    have HB := n2_
    clear n0_ n1_ n2_
    refine wp_loop_rounds 3 ?_
    rw [rounds_succ]
    have p0 : w8.cell? ⟨gp, 0, none⟩ = some (.int .i64 1) := (blk_cell BKP.out 0).trans rfl
    have p1 : w8.cell? ⟨gp, 1, none⟩ = some (.pointer (some ⟨g6, 1, none⟩)) := (blk_cell BKP.out 1).trans rfl
    go_wp2_with (fail)
    have n0_ := Aside0.mk (blk_below BK6.out (below_alloc (Below.refl _ w8) (.cells #[.int .i64 1, .pointer (some ⟨g6, 1, none⟩)] 105)))
    have n1_ := Aside0.mk (blk_below BK4.out (below_alloc (Below.refl _ w8) (.cells #[.int .i64 1, .pointer (some ⟨g6, 1, none⟩)] 105)))
    have n3_ := Aside0.mk (blk_below BKP.out (below_alloc (Below.refl _ w8) (.cells #[.int .i64 1, .pointer (some ⟨g6, 1, none⟩)] 105)))
    have n2_ := Aside0.mk (below_then HB.out HB.out.size (below_alloc (Below.refl _ w8) (.cells #[.int .i64 1, .pointer (some ⟨g6, 1, none⟩)] 105)))
    generalize w8.alloc (.cells #[.int .i64 1, .pointer (some ⟨g6, 1, none⟩)] 105) = w9 at n0_ n1_ n2_ n3_ ⊢
    clear BK6 BK4 HB BKP p0 p1
    have BK6 := n0_
    have BK4 := n1_
    have HB := n2_
    have BKP := n3_
    clear n0_ n1_ n2_ n3_
    rw [rounds_succ]
    have p2 : w9.cell? ⟨gp, 2, none⟩ = some (.int .i64 2) := (blk_cell BKP.out 2).trans rfl
    have p3 : w9.cell? ⟨gp, 3, none⟩ = some (.pointer (some ⟨g6, 2, none⟩)) := (blk_cell BKP.out 3).trans rfl
    go_wp2_with (fail)
    have n0_ := Aside0.mk (blk_below BK6.out (below_alloc (Below.refl _ w9) (.cells #[.int .i64 2, .pointer (some ⟨g6, 2, none⟩)] 105)))
    have n1_ := Aside0.mk (blk_below BK4.out (below_alloc (Below.refl _ w9) (.cells #[.int .i64 2, .pointer (some ⟨g6, 2, none⟩)] 105)))
    have n3_ := Aside0.mk (blk_below BKP.out (below_alloc (Below.refl _ w9) (.cells #[.int .i64 2, .pointer (some ⟨g6, 2, none⟩)] 105)))
    have n2_ := Aside0.mk (below_then HB.out HB.out.size (below_alloc (Below.refl _ w9) (.cells #[.int .i64 2, .pointer (some ⟨g6, 2, none⟩)] 105)))
    generalize w9.alloc (.cells #[.int .i64 2, .pointer (some ⟨g6, 2, none⟩)] 105) = w12 at n0_ n1_ n2_ n3_ ⊢
    clear BK6 BK4 HB BKP p2 p3
    have BK6 := n0_
    have BK4 := n1_
    have HB := n2_
    have BKP := n3_
    clear n0_ n1_ n2_ n3_
    rw [rounds_succ]
    have y0 : w12.cell? ⟨g6, 0, none⟩ = some (.int .i64 k) := (blk_cell BK6.out 0).trans rfl
    have y1 : w12.cell? ⟨g6, 1, none⟩ = some (.int .i64 0) := (blk_cell BK6.out 1).trans rfl
    have y2 : w12.cell? ⟨g6, 2, none⟩ = some (.int .i64 0) := (blk_cell BK6.out 2).trans rfl
    have y3 : w12.cell? ⟨g6, 3, none⟩ = some (.slice none 0 0) := (blk_cell BK6.out 3).trans rfl
    have z0 := blk_frozen BK6.out 3
    go_wp2_with (first | (refine store_event rfl rfl rfl (by first | (go_simp; done) | (go_simp; rfl)) ?_; intro wy hy; have n0_ : Aside0 (wy.heap[g6]? = some (.cells #[.int .i64 k, .int .i64 0, .int .i64 0, .slice A n c] 28 (0, 0))) := ⟨by rw [hy]; exact blk_put (cs := #[.int .i64 k, .int .i64 0, .int .i64 0, .slice none 0 0]) BK6.out 3 (.slice A n c) rfl⟩; have n1_ : Aside0 (wy.heap[g4]? = some (.cells #[.int .i64 0, .int .i64 0, .int .i64 0, .slice none 0 0] 28 (0, 0))) := ⟨by rw [hy]; exact blk_far BK4.out (p := ⟨g6, 3, none⟩) NE.out (.slice A n c)⟩; have n2_ : Aside0 (Below w.heap.size w wy) := ⟨by rw [hy]; exact below_set (g := g6) (j := 3) (v := .slice A n c) HB.out GE6.out⟩; clear hy BK6 BK4 HB y0 y1 y2 y3 z0; have BK6 := n0_; have BK4 := n1_; have HB := n2_; clear n0_ n1_ n2_; have y0 : wy.cell? ⟨g6, 0, none⟩ = some (.int .i64 k) := (blk_cell BK6.out 0).trans rfl; have y1 : wy.cell? ⟨g6, 1, none⟩ = some (.int .i64 0) := (blk_cell BK6.out 1).trans rfl; have y2 : wy.cell? ⟨g6, 2, none⟩ = some (.int .i64 0) := (blk_cell BK6.out 2).trans rfl; have y3 : wy.cell? ⟨g6, 3, none⟩ = some (.slice A n c) := (blk_cell BK6.out 3).trans rfl) | (refine wpList_store_row rfl 28 (.tmp 4) (.tmp 55) rfl g4 #[.int .i64 k, .int .i64 0, .int .i64 0, .slice A n c] rfl rfl 28 _ BK4.out (by kernel_rfl) rfl (by kernel_rfl) ?_; have n9_ : Aside0 ((wy.setRow g4 #[.int .i64 k, .int .i64 0, .int .i64 0, .slice A n c]).heap[g4]? = some (.cells #[.int .i64 k, .int .i64 0, .int .i64 0, .slice A n c] 28 (0, 0))) := ⟨setRow_heap _ _ _ _ _ _ BK4.out⟩; have n8_ := Aside0.mk (below_setRow HB.out GE4.out #[.int .i64 k, .int .i64 0, .int .i64 0, .slice A n c]); generalize wy.setRow g4 #[.int .i64 k, .int .i64 0, .int .i64 0, .slice A n c] = wz at n9_ n8_ ⊢))
    refine bodyPost_ret (results_ct rfl _ _ g4 28 #[.int .i64 k, .int .i64 0, .int .i64 0, .slice A n c] (0, 0) _ rfl n9_.out Tryd.underlying28 rfl (by kernel_rfl)) rfl ?_
    exact ⟨rfl, n8_.out⟩
set_option maxRecDepth 100000 in
set_option maxHeartbeats 4000000 in
theorem one_h1 (t : ByteArray) (k : Nat) (A : Option Addr) (c : Nat) (x : Int) (r : List Int) (w : World) (hr : Kd.C (Kd.int .i64) w A (r.length + 1) (x :: r)) (hc : (r.length + 1) ≤ c) (h : opOf t = k) (h1 : 1 ≤ k) (h2 : k ≤ 27) (hh : hasAt k = 1) :
    Calls Tryd.prog 62 #[.string t, .slice A (r.length + 1) c] w fun e w' => e = .returned (.tuple #[.agg #[.int .i64 k, .int .i64 x, .int .i64 0, .slice none 0 0], .bool ((r.length : Int) == 0)]) ∧ Below w.heap.size w w' := by
  have hu28 := Tryd.underlying28
  have hix := fun W => index_at W k (by omega)
  rw [hh] at hix
  have hfd := field_has (nameAt k) 1
  have hk0 : ((k : Int) == 0) = false := by simp; omega
  have HO := Aside0.mk h
  have HR := Aside0.mk hr
  obtain ⟨A1, c1, hA1, hAb1⟩ := slice_one A r.length c (by omega)
  replace hA1 : ∀ W : World, (Instr.slice 26 (.slice A (r.length + 1) c) (some (.int .i64 1)) none none).run Tryd.prog W = .ok (.slice A1 r.length c1) W := hA1
  have X0 := Aside0.mk (num_at0 hr x rfl)
  clear h hh hr
  go_enter Tryd.func62, Tryd.ntmps62
  go_wp2_with (first
    | ((with_reducible refine gate_dst (N := 4) rfl ?_); refine box_event ?hg (N := 4) ?hd (cs := #[.int .i64 0, .int .i64 0, .int .i64 0, .slice none 0 0]) (t := 28) ?hr ?_; (case hd => rfl); (case hg => rfl); (case hr => first | (go_simp; done) | (go_simp; rfl)); intro g4 hg w2 hbox hb; have BK4 := Aside0.mk hbox; have HB := Aside0.mk hb; have GE4 := Aside0.mk (Nat.le_of_eq hg.symm); clear hg hbox hb)
    | (go_at_call 11; refine (op_any t _).mono ?_; rw [HO.out]; rintro e w3 ⟨rfl, hb⟩; have n1_ := Aside0.mk (blk_below BK4.out hb); have n3_ := Aside0.mk (below_then HB.out HB.out.size hb); clear BK4 HB hb; have BK4 := n1_; have HB := n3_; clear n1_ n3_)
    | ((with_reducible refine gate_dst (N := 6) rfl ?_); refine box_event ?hg (N := 6) ?hd (cs := #[.int .i64 0, .int .i64 0, .int .i64 0, .slice none 0 0]) (t := 28) ?hr ?_; (case hd => rfl); (case hg => rfl); (case hr => first | (go_simp; done) | (go_simp; rfl)); intro g6 hg w4 hbox hb; have BK6 := Aside0.mk hbox; have GE6 := Aside0.mk (show w.heap.size ≤ g6 by rw [hg]; exact HB.out.size); have NE := Aside0.mk (show g4 ≠ g6 by rw [hg]; exact Nat.ne_of_lt (blk_lt BK4.out)); have n1_ := Aside0.mk (blk_below BK4.out hb); have n3_ := Aside0.mk (below_then HB.out HB.out.size hb); clear BK4 HB; have BK4 := n1_; have HB := n3_; clear n1_ n3_ hg hbox hb)
    | (refine wpList_store_row rfl 28 (.tmp 6) (.tmp 12) rfl g6 #[.int .i64 k, .int .i64 0, .int .i64 0, .slice none 0 0] rfl rfl 28 _ BK6.out (by kernel_rfl) rfl (by kernel_rfl) ?_; have n0_ : Aside0 ((w4.setRow g6 #[.int .i64 k, .int .i64 0, .int .i64 0, .slice none 0 0]).heap[g6]? = some (.cells #[.int .i64 k, .int .i64 0, .int .i64 0, .slice none 0 0] 28 (0, 0))) := ⟨setRow_heap _ _ _ _ _ _ BK6.out⟩; have n2_ : Aside0 ((w4.setRow g6 #[.int .i64 k, .int .i64 0, .int .i64 0, .slice none 0 0]).heap[g4]? = some (.cells #[.int .i64 0, .int .i64 0, .int .i64 0, .slice none 0 0] 28 (0, 0))) := ⟨(setRow_other _ _ _ _ NE.out).trans BK4.out⟩; have n1_ := Aside0.mk (below_setRow HB.out GE6.out #[.int .i64 k, .int .i64 0, .int .i64 0, .slice none 0 0]); generalize w4.setRow g6 #[.int .i64 k, .int .i64 0, .int .i64 0, .slice none 0 0] = w5 at n0_ n1_ n2_ ⊢; clear BK4 BK6 HB; have BK6 := n0_; have BK4 := n2_; have HB := n1_; clear n0_ n1_ n2_; have y0 : w5.cell? ⟨g6, 0, none⟩ = some (.int .i64 k) := (blk_cell BK6.out 0).trans rfl; have y1 : w5.cell? ⟨g6, 1, none⟩ = some (.int .i64 0) := (blk_cell BK6.out 1).trans rfl; have y2 : w5.cell? ⟨g6, 2, none⟩ = some (.int .i64 0) := (blk_cell BK6.out 2).trans rfl; have y3 : w5.cell? ⟨g6, 3, none⟩ = some (.slice none 0 0) := (blk_cell BK6.out 3).trans rfl))
  clear y1 y2 y3
  go_cut [7] (fun v7 wc => v7 = .int .i64 1 ∧ Aside0 (wc.heap[g6]? = some (.cells #[.int .i64 k, .int .i64 0, .int .i64 0, .slice none 0 0] 28 (0, 0))) ∧ Aside0 (wc.heap[g4]? = some (.cells #[.int .i64 0, .int .i64 0, .int .i64 0, .slice none 0 0] 28 (0, 0))) ∧ Aside0 (Below w.heap.size w wc))
  case first =>
    have y1 : ∀ o : Obj, (w5.alloc o).cell? ⟨g6, 0, none⟩ = some (.int .i64 k) := fun o => pw_cell_below (below_alloc (Below.refl _ w5) o) y0
    go_region_with (go_at_call 31; refine (table_any _).mono ?_; rintro e w2 ⟨rfl, rfl⟩)
    all_goals go_wp2_with (fail)
    all_goals go_meet
    all_goals exact ⟨rfl, ⟨blk_below BK6.out (below_drew (below_alloc (Below.refl _ _) _))⟩, ⟨blk_below BK4.out (below_drew (below_alloc (Below.refl _ _) _))⟩, ⟨below_then HB.out HB.out.size (below_drew (below_alloc (Below.refl _ _) _))⟩⟩
  case rest =>
    obtain ⟨rfl, BK6, BK4, HB⟩ := hcut
    go_wp2_with (fail)
    have BKP := Aside0.mk (blk_new wc (.cells #[.int .i64 1, .pointer (some ⟨g6, 1, none⟩), .int .i64 2, .pointer (some ⟨g6, 2, none⟩)] 105))
    have GP := Aside0.mk (show g6 ≠ wc.heap.size from Nat.ne_of_lt (blk_lt BK6.out))
    have n0_ := Aside0.mk (blk_below BK6.out (below_alloc (Below.refl _ wc) (.cells #[.int .i64 1, .pointer (some ⟨g6, 1, none⟩), .int .i64 2, .pointer (some ⟨g6, 2, none⟩)] 105)))
    have n1_ := Aside0.mk (blk_below BK4.out (below_alloc (Below.refl _ wc) (.cells #[.int .i64 1, .pointer (some ⟨g6, 1, none⟩), .int .i64 2, .pointer (some ⟨g6, 2, none⟩)] 105)))
    have n2_ := Aside0.mk (below_then HB.out HB.out.size (below_alloc (Below.refl _ wc) (.cells #[.int .i64 1, .pointer (some ⟨g6, 1, none⟩), .int .i64 2, .pointer (some ⟨g6, 2, none⟩)] 105)))
    generalize wc.heap.size = gp at BKP GP ⊢
    generalize wc.alloc (.cells #[.int .i64 1, .pointer (some ⟨g6, 1, none⟩), .int .i64 2, .pointer (some ⟨g6, 2, none⟩)] 105) = w8 at BKP n0_ n1_ n2_ ⊢
    clear BK6 BK4 HB
    have BK6 := n0_
    have BK4 := n1_
    have HB := n2_
    clear n0_ n1_ n2_
    refine wp_loop_rounds 3 ?_
    rw [rounds_succ]
    have p0 : w8.cell? ⟨gp, 0, none⟩ = some (.int .i64 1) := (blk_cell BKP.out 0).trans rfl
    have p1 : w8.cell? ⟨gp, 1, none⟩ = some (.pointer (some ⟨g6, 1, none⟩)) := (blk_cell BKP.out 1).trans rfl
    have hn0 : ((((r.length + 1) : Nat) : Int) == 0) = false := by simp; try omega
    go_wp2_with (fail)
    have n0_ := Aside0.mk (blk_below BK6.out (below_alloc (Below.refl _ w8) (.cells #[.int .i64 1, .pointer (some ⟨g6, 1, none⟩)] 105)))
    have n1_ := Aside0.mk (blk_below BK4.out (below_alloc (Below.refl _ w8) (.cells #[.int .i64 1, .pointer (some ⟨g6, 1, none⟩)] 105)))
    have n3_ := Aside0.mk (blk_below BKP.out (below_alloc (Below.refl _ w8) (.cells #[.int .i64 1, .pointer (some ⟨g6, 1, none⟩)] 105)))
    have n2_ := Aside0.mk (below_then HB.out HB.out.size (below_alloc (Below.refl _ w8) (.cells #[.int .i64 1, .pointer (some ⟨g6, 1, none⟩)] 105)))
    have n4_ := Aside0.mk (blk_new w8 (.cells #[.int .i64 1, .pointer (some ⟨g6, 1, none⟩)] 105))
    generalize w8.alloc (.cells #[.int .i64 1, .pointer (some ⟨g6, 1, none⟩)] 105) = w9 at n0_ n1_ n2_ n3_ n4_ ⊢
    generalize w8.heap.size = g9 at n4_ ⊢
    clear BK6 BK4 HB BKP p0 p1
    have BK6 := n0_
    have BK4 := n1_
    have HB := n2_
    have BKP := n3_
    clear n0_ n1_ n2_ n3_
    have q1 : w9.cell? ⟨g9, 1, none⟩ = some (.pointer (some ⟨g6, 1, none⟩)) := (blk_cell n4_.out 1).trans rfl
    obtain ⟨ad0, hAD, q2⟩ := X0.out
    subst hAD
    replace q2 := pw_cell_below HB.out q2
    have q3 : w9.cell? ⟨g6, 1, none⟩ = some (.int .i64 0) := (blk_cell BK6.out 1).trans rfl
    have q4 : w9.frozen? ⟨g6, 1, none⟩ = false := blk_frozen BK6.out 1
    go_region
    have n0_ := Aside0.mk (blk_drew (blk_put (cs := #[.int .i64 k, .int .i64 0, .int .i64 0, .slice none 0 0]) (cs' := #[.int .i64 k, .int .i64 x, .int .i64 0, .slice none 0 0]) BK6.out 1 (.int .i64 x) rfl))
    have n1_ := Aside0.mk (blk_drew (blk_far BK4.out (p := ⟨g6, 1, none⟩) NE.out (.int .i64 x)))
    have n2_ := Aside0.mk (below_drew1 (below_set (g := g6) (j := 1) (v := .int .i64 x) HB.out GE6.out))
    have n3_ := Aside0.mk (blk_drew (blk_far BKP.out (p := ⟨g6, 1, none⟩) (Ne.symm GP.out) (.int .i64 x)))
    generalize (w9.setCell ⟨g6, 1, none⟩ (.int .i64 x)).drew = w10 at n0_ n1_ n2_ n3_ ⊢
    clear BK6 BK4 HB BKP q1 q2 q3 q4
    have BK6 := n0_
    have BK4 := n1_
    have HB := n2_
    have BKP := n3_
    clear n0_ n1_ n2_ n3_ n4_
    go_wp2_with (fail)
    clear hn0
    rw [rounds_succ]
    have p2 : w10.cell? ⟨gp, 2, none⟩ = some (.int .i64 2) := (blk_cell BKP.out 2).trans rfl
    have p3 : w10.cell? ⟨gp, 3, none⟩ = some (.pointer (some ⟨g6, 2, none⟩)) := (blk_cell BKP.out 3).trans rfl
    go_wp2_with (fail)
    have n0_ := Aside0.mk (blk_below BK6.out (below_alloc (Below.refl _ w10) (.cells #[.int .i64 2, .pointer (some ⟨g6, 2, none⟩)] 105)))
    have n1_ := Aside0.mk (blk_below BK4.out (below_alloc (Below.refl _ w10) (.cells #[.int .i64 2, .pointer (some ⟨g6, 2, none⟩)] 105)))
    have n3_ := Aside0.mk (blk_below BKP.out (below_alloc (Below.refl _ w10) (.cells #[.int .i64 2, .pointer (some ⟨g6, 2, none⟩)] 105)))
    have n2_ := Aside0.mk (below_then HB.out HB.out.size (below_alloc (Below.refl _ w10) (.cells #[.int .i64 2, .pointer (some ⟨g6, 2, none⟩)] 105)))
    generalize w10.alloc (.cells #[.int .i64 2, .pointer (some ⟨g6, 2, none⟩)] 105) = w12 at n0_ n1_ n2_ n3_ ⊢
    clear BK6 BK4 HB BKP p2 p3
    have BK6 := n0_
    have BK4 := n1_
    have HB := n2_
    have BKP := n3_
    clear n0_ n1_ n2_ n3_
    rw [rounds_succ]
    have y0 : w12.cell? ⟨g6, 0, none⟩ = some (.int .i64 k) := (blk_cell BK6.out 0).trans rfl
    have y1 : w12.cell? ⟨g6, 1, none⟩ = some (.int .i64 x) := (blk_cell BK6.out 1).trans rfl
    have y2 : w12.cell? ⟨g6, 2, none⟩ = some (.int .i64 0) := (blk_cell BK6.out 2).trans rfl
    have y3 : w12.cell? ⟨g6, 3, none⟩ = some (.slice none 0 0) := (blk_cell BK6.out 3).trans rfl
    go_wp2_with (first | (refine wpList_store_row rfl 28 (.tmp 4) (.tmp 56) rfl g4 #[.int .i64 k, .int .i64 x, .int .i64 0, .slice none 0 0] rfl rfl 28 _ BK4.out (by kernel_rfl) rfl (by kernel_rfl) ?_; have n9_ : Aside0 ((w12.setRow g4 #[.int .i64 k, .int .i64 x, .int .i64 0, .slice none 0 0]).heap[g4]? = some (.cells #[.int .i64 k, .int .i64 x, .int .i64 0, .slice none 0 0] 28 (0, 0))) := ⟨setRow_heap _ _ _ _ _ _ BK4.out⟩; have n8_ := Aside0.mk (below_setRow HB.out GE4.out #[.int .i64 k, .int .i64 x, .int .i64 0, .slice none 0 0]); generalize w12.setRow g4 #[.int .i64 k, .int .i64 x, .int .i64 0, .slice none 0 0] = wz at n9_ n8_ ⊢))
    refine bodyPost_ret (results_ct rfl _ _ g4 28 #[.int .i64 k, .int .i64 x, .int .i64 0, .slice none 0 0] (0, 0) _ rfl n9_.out Tryd.underlying28 rfl (by kernel_rfl)) rfl ?_
    exact ⟨rfl, n8_.out⟩
set_option maxRecDepth 100000 in
set_option maxHeartbeats 4000000 in
theorem one_h5 (t : ByteArray) (k : Nat) (A : Option Addr) (c : Nat) (x : Int) (r : List Int) (w : World) (hr : Kd.C (Kd.int .i64) w A (r.length + 1) (x :: r)) (hc : (r.length + 1) ≤ c) (h : opOf t = k) (h1 : 1 ≤ k) (h2 : k ≤ 27) (hh : hasAt k = 5) :
    Calls Tryd.prog 62 #[.string t, .slice A (r.length + 1) c] w fun e w' => e = .returned (.tuple #[.agg #[.int .i64 k, .int .i64 x, .int .i64 0, .slice (tailA A c) r.length (c - 1)], .bool true]) ∧ Below w.heap.size w w' := by
  have hu28 := Tryd.underlying28
  have hix := fun W => index_at W k (by omega)
  rw [hh] at hix
  have hfd := field_has (nameAt k) 5
  have hk0 : ((k : Int) == 0) = false := by simp; omega
  have HO := Aside0.mk h
  have HR := Aside0.mk hr
  obtain ⟨A1, c1, hA1, hAb1⟩ := slice_one A r.length c (by omega)
  replace hA1 : ∀ W : World, (Instr.slice 26 (.slice A (r.length + 1) c) (some (.int .i64 1)) none none).run Tryd.prog W = .ok (.slice A1 r.length c1) W := hA1
  have X0 := Aside0.mk (num_at0 hr x rfl)
  clear h hh hr
  go_enter Tryd.func62, Tryd.ntmps62
  go_wp2_with (first
    | ((with_reducible refine gate_dst (N := 4) rfl ?_); refine box_event ?hg (N := 4) ?hd (cs := #[.int .i64 0, .int .i64 0, .int .i64 0, .slice none 0 0]) (t := 28) ?hr ?_; (case hd => rfl); (case hg => rfl); (case hr => first | (go_simp; done) | (go_simp; rfl)); intro g4 hg w2 hbox hb; have BK4 := Aside0.mk hbox; have HB := Aside0.mk hb; have GE4 := Aside0.mk (Nat.le_of_eq hg.symm); clear hg hbox hb)
    | (go_at_call 11; refine (op_any t _).mono ?_; rw [HO.out]; rintro e w3 ⟨rfl, hb⟩; have n1_ := Aside0.mk (blk_below BK4.out hb); have n3_ := Aside0.mk (below_then HB.out HB.out.size hb); clear BK4 HB hb; have BK4 := n1_; have HB := n3_; clear n1_ n3_)
    | ((with_reducible refine gate_dst (N := 6) rfl ?_); refine box_event ?hg (N := 6) ?hd (cs := #[.int .i64 0, .int .i64 0, .int .i64 0, .slice none 0 0]) (t := 28) ?hr ?_; (case hd => rfl); (case hg => rfl); (case hr => first | (go_simp; done) | (go_simp; rfl)); intro g6 hg w4 hbox hb; have BK6 := Aside0.mk hbox; have GE6 := Aside0.mk (show w.heap.size ≤ g6 by rw [hg]; exact HB.out.size); have NE := Aside0.mk (show g4 ≠ g6 by rw [hg]; exact Nat.ne_of_lt (blk_lt BK4.out)); have n1_ := Aside0.mk (blk_below BK4.out hb); have n3_ := Aside0.mk (below_then HB.out HB.out.size hb); clear BK4 HB; have BK4 := n1_; have HB := n3_; clear n1_ n3_ hg hbox hb)
    | (refine wpList_store_row rfl 28 (.tmp 6) (.tmp 12) rfl g6 #[.int .i64 k, .int .i64 0, .int .i64 0, .slice none 0 0] rfl rfl 28 _ BK6.out (by kernel_rfl) rfl (by kernel_rfl) ?_; have n0_ : Aside0 ((w4.setRow g6 #[.int .i64 k, .int .i64 0, .int .i64 0, .slice none 0 0]).heap[g6]? = some (.cells #[.int .i64 k, .int .i64 0, .int .i64 0, .slice none 0 0] 28 (0, 0))) := ⟨setRow_heap _ _ _ _ _ _ BK6.out⟩; have n2_ : Aside0 ((w4.setRow g6 #[.int .i64 k, .int .i64 0, .int .i64 0, .slice none 0 0]).heap[g4]? = some (.cells #[.int .i64 0, .int .i64 0, .int .i64 0, .slice none 0 0] 28 (0, 0))) := ⟨(setRow_other _ _ _ _ NE.out).trans BK4.out⟩; have n1_ := Aside0.mk (below_setRow HB.out GE6.out #[.int .i64 k, .int .i64 0, .int .i64 0, .slice none 0 0]); generalize w4.setRow g6 #[.int .i64 k, .int .i64 0, .int .i64 0, .slice none 0 0] = w5 at n0_ n1_ n2_ ⊢; clear BK4 BK6 HB; have BK6 := n0_; have BK4 := n2_; have HB := n1_; clear n0_ n1_ n2_; have y0 : w5.cell? ⟨g6, 0, none⟩ = some (.int .i64 k) := (blk_cell BK6.out 0).trans rfl; have y1 : w5.cell? ⟨g6, 1, none⟩ = some (.int .i64 0) := (blk_cell BK6.out 1).trans rfl; have y2 : w5.cell? ⟨g6, 2, none⟩ = some (.int .i64 0) := (blk_cell BK6.out 2).trans rfl; have y3 : w5.cell? ⟨g6, 3, none⟩ = some (.slice none 0 0) := (blk_cell BK6.out 3).trans rfl))
  clear y1 y2 y3
  go_cut [7] (fun v7 wc => v7 = .int .i64 5 ∧ Aside0 (wc.heap[g6]? = some (.cells #[.int .i64 k, .int .i64 0, .int .i64 0, .slice none 0 0] 28 (0, 0))) ∧ Aside0 (wc.heap[g4]? = some (.cells #[.int .i64 0, .int .i64 0, .int .i64 0, .slice none 0 0] 28 (0, 0))) ∧ Aside0 (Below w.heap.size w wc))
  case first =>
    have y1 : ∀ o : Obj, (w5.alloc o).cell? ⟨g6, 0, none⟩ = some (.int .i64 k) := fun o => pw_cell_below (below_alloc (Below.refl _ w5) o) y0
    go_region_with (go_at_call 31; refine (table_any _).mono ?_; rintro e w2 ⟨rfl, rfl⟩)
    all_goals go_wp2_with (fail)
    all_goals go_meet
    all_goals exact ⟨rfl, ⟨blk_below BK6.out (below_drew (below_alloc (Below.refl _ _) _))⟩, ⟨blk_below BK4.out (below_drew (below_alloc (Below.refl _ _) _))⟩, ⟨below_then HB.out HB.out.size (below_drew (below_alloc (Below.refl _ _) _))⟩⟩
  case rest =>
    obtain ⟨rfl, BK6, BK4, HB⟩ := hcut
    go_wp2_with (fail)
    have BKP := Aside0.mk (blk_new wc (.cells #[.int .i64 1, .pointer (some ⟨g6, 1, none⟩), .int .i64 2, .pointer (some ⟨g6, 2, none⟩)] 105))
    have GP := Aside0.mk (show g6 ≠ wc.heap.size from Nat.ne_of_lt (blk_lt BK6.out))
    have n0_ := Aside0.mk (blk_below BK6.out (below_alloc (Below.refl _ wc) (.cells #[.int .i64 1, .pointer (some ⟨g6, 1, none⟩), .int .i64 2, .pointer (some ⟨g6, 2, none⟩)] 105)))
    have n1_ := Aside0.mk (blk_below BK4.out (below_alloc (Below.refl _ wc) (.cells #[.int .i64 1, .pointer (some ⟨g6, 1, none⟩), .int .i64 2, .pointer (some ⟨g6, 2, none⟩)] 105)))
    have n2_ := Aside0.mk (below_then HB.out HB.out.size (below_alloc (Below.refl _ wc) (.cells #[.int .i64 1, .pointer (some ⟨g6, 1, none⟩), .int .i64 2, .pointer (some ⟨g6, 2, none⟩)] 105)))
    generalize wc.heap.size = gp at BKP GP ⊢
    generalize wc.alloc (.cells #[.int .i64 1, .pointer (some ⟨g6, 1, none⟩), .int .i64 2, .pointer (some ⟨g6, 2, none⟩)] 105) = w8 at BKP n0_ n1_ n2_ ⊢
    clear BK6 BK4 HB
    have BK6 := n0_
    have BK4 := n1_
    have HB := n2_
    clear n0_ n1_ n2_
    refine wp_loop_rounds 3 ?_
    rw [rounds_succ]
    have p0 : w8.cell? ⟨gp, 0, none⟩ = some (.int .i64 1) := (blk_cell BKP.out 0).trans rfl
    have p1 : w8.cell? ⟨gp, 1, none⟩ = some (.pointer (some ⟨g6, 1, none⟩)) := (blk_cell BKP.out 1).trans rfl
    have hn0 : ((((r.length + 1) : Nat) : Int) == 0) = false := by simp; try omega
    go_wp2_with (fail)
    have n0_ := Aside0.mk (blk_below BK6.out (below_alloc (Below.refl _ w8) (.cells #[.int .i64 1, .pointer (some ⟨g6, 1, none⟩)] 105)))
    have n1_ := Aside0.mk (blk_below BK4.out (below_alloc (Below.refl _ w8) (.cells #[.int .i64 1, .pointer (some ⟨g6, 1, none⟩)] 105)))
    have n3_ := Aside0.mk (blk_below BKP.out (below_alloc (Below.refl _ w8) (.cells #[.int .i64 1, .pointer (some ⟨g6, 1, none⟩)] 105)))
    have n2_ := Aside0.mk (below_then HB.out HB.out.size (below_alloc (Below.refl _ w8) (.cells #[.int .i64 1, .pointer (some ⟨g6, 1, none⟩)] 105)))
    have n4_ := Aside0.mk (blk_new w8 (.cells #[.int .i64 1, .pointer (some ⟨g6, 1, none⟩)] 105))
    generalize w8.alloc (.cells #[.int .i64 1, .pointer (some ⟨g6, 1, none⟩)] 105) = w9 at n0_ n1_ n2_ n3_ n4_ ⊢
    generalize w8.heap.size = g9 at n4_ ⊢
    clear BK6 BK4 HB BKP p0 p1
    have BK6 := n0_
    have BK4 := n1_
    have HB := n2_
    have BKP := n3_
    clear n0_ n1_ n2_ n3_
    have q1 : w9.cell? ⟨g9, 1, none⟩ = some (.pointer (some ⟨g6, 1, none⟩)) := (blk_cell n4_.out 1).trans rfl
    obtain ⟨ad0, hAD, q2⟩ := X0.out
    subst hAD
    replace q2 := pw_cell_below HB.out q2
    have q3 : w9.cell? ⟨g6, 1, none⟩ = some (.int .i64 0) := (blk_cell BK6.out 1).trans rfl
    have q4 : w9.frozen? ⟨g6, 1, none⟩ = false := blk_frozen BK6.out 1
    go_region
    have n0_ := Aside0.mk (blk_drew (blk_put (cs := #[.int .i64 k, .int .i64 0, .int .i64 0, .slice none 0 0]) (cs' := #[.int .i64 k, .int .i64 x, .int .i64 0, .slice none 0 0]) BK6.out 1 (.int .i64 x) rfl))
    have n1_ := Aside0.mk (blk_drew (blk_far BK4.out (p := ⟨g6, 1, none⟩) NE.out (.int .i64 x)))
    have n2_ := Aside0.mk (below_drew1 (below_set (g := g6) (j := 1) (v := .int .i64 x) HB.out GE6.out))
    have n3_ := Aside0.mk (blk_drew (blk_far BKP.out (p := ⟨g6, 1, none⟩) (Ne.symm GP.out) (.int .i64 x)))
    generalize (w9.setCell ⟨g6, 1, none⟩ (.int .i64 x)).drew = w10 at n0_ n1_ n2_ n3_ ⊢
    clear BK6 BK4 HB BKP q1 q2 q3 q4
    have BK6 := n0_
    have BK4 := n1_
    have HB := n2_
    have BKP := n3_
    clear n0_ n1_ n2_ n3_ n4_
    go_wp2_with (fail)
    clear hn0
    rw [rounds_succ]
    have p2 : w10.cell? ⟨gp, 2, none⟩ = some (.int .i64 2) := (blk_cell BKP.out 2).trans rfl
    have p3 : w10.cell? ⟨gp, 3, none⟩ = some (.pointer (some ⟨g6, 2, none⟩)) := (blk_cell BKP.out 3).trans rfl
    go_wp2_with (fail)
    have n0_ := Aside0.mk (blk_below BK6.out (below_alloc (Below.refl _ w10) (.cells #[.int .i64 2, .pointer (some ⟨g6, 2, none⟩)] 105)))
    have n1_ := Aside0.mk (blk_below BK4.out (below_alloc (Below.refl _ w10) (.cells #[.int .i64 2, .pointer (some ⟨g6, 2, none⟩)] 105)))
    have n3_ := Aside0.mk (blk_below BKP.out (below_alloc (Below.refl _ w10) (.cells #[.int .i64 2, .pointer (some ⟨g6, 2, none⟩)] 105)))
    have n2_ := Aside0.mk (below_then HB.out HB.out.size (below_alloc (Below.refl _ w10) (.cells #[.int .i64 2, .pointer (some ⟨g6, 2, none⟩)] 105)))
    generalize w10.alloc (.cells #[.int .i64 2, .pointer (some ⟨g6, 2, none⟩)] 105) = w12 at n0_ n1_ n2_ n3_ ⊢
    clear BK6 BK4 HB BKP p2 p3
    have BK6 := n0_
    have BK4 := n1_
    have HB := n2_
    have BKP := n3_
    clear n0_ n1_ n2_ n3_
    rw [rounds_succ]
    have y0 : w12.cell? ⟨g6, 0, none⟩ = some (.int .i64 k) := (blk_cell BK6.out 0).trans rfl
    have y1 : w12.cell? ⟨g6, 1, none⟩ = some (.int .i64 x) := (blk_cell BK6.out 1).trans rfl
    have y2 : w12.cell? ⟨g6, 2, none⟩ = some (.int .i64 0) := (blk_cell BK6.out 2).trans rfl
    have y3 : w12.cell? ⟨g6, 3, none⟩ = some (.slice none 0 0) := (blk_cell BK6.out 3).trans rfl
    have z0 := blk_frozen BK6.out 3
    go_wp2_with (first | (refine store_event rfl rfl rfl (by first | (go_simp; done) | (go_simp; rfl)) ?_; intro wy hy; have n0_ : Aside0 (wy.heap[g6]? = some (.cells #[.int .i64 k, .int .i64 x, .int .i64 0, .slice A1 r.length c1] 28 (0, 0))) := ⟨by rw [hy]; exact blk_put (cs := #[.int .i64 k, .int .i64 x, .int .i64 0, .slice none 0 0]) BK6.out 3 (.slice A1 r.length c1) rfl⟩; have n1_ : Aside0 (wy.heap[g4]? = some (.cells #[.int .i64 0, .int .i64 0, .int .i64 0, .slice none 0 0] 28 (0, 0))) := ⟨by rw [hy]; exact blk_far BK4.out (p := ⟨g6, 3, none⟩) NE.out (.slice A1 r.length c1)⟩; have n2_ : Aside0 (Below w.heap.size w wy) := ⟨by rw [hy]; exact below_set (g := g6) (j := 3) (v := .slice A1 r.length c1) HB.out GE6.out⟩; clear hy BK6 BK4 HB y0 y1 y2 y3 z0; have BK6 := n0_; have BK4 := n1_; have HB := n2_; clear n0_ n1_ n2_; have y0 : wy.cell? ⟨g6, 0, none⟩ = some (.int .i64 k) := (blk_cell BK6.out 0).trans rfl; have y1 : wy.cell? ⟨g6, 1, none⟩ = some (.int .i64 x) := (blk_cell BK6.out 1).trans rfl; have y2 : wy.cell? ⟨g6, 2, none⟩ = some (.int .i64 0) := (blk_cell BK6.out 2).trans rfl; have y3 : wy.cell? ⟨g6, 3, none⟩ = some (.slice A1 r.length c1) := (blk_cell BK6.out 3).trans rfl) | (refine wpList_store_row rfl 28 (.tmp 4) (.tmp 55) rfl g4 #[.int .i64 k, .int .i64 x, .int .i64 0, .slice A1 r.length c1] rfl rfl 28 _ BK4.out (by kernel_rfl) rfl (by kernel_rfl) ?_; have n9_ : Aside0 ((wy.setRow g4 #[.int .i64 k, .int .i64 x, .int .i64 0, .slice A1 r.length c1]).heap[g4]? = some (.cells #[.int .i64 k, .int .i64 x, .int .i64 0, .slice A1 r.length c1] 28 (0, 0))) := ⟨setRow_heap _ _ _ _ _ _ BK4.out⟩; have n8_ := Aside0.mk (below_setRow HB.out GE4.out #[.int .i64 k, .int .i64 x, .int .i64 0, .slice A1 r.length c1]); generalize wy.setRow g4 #[.int .i64 k, .int .i64 x, .int .i64 0, .slice A1 r.length c1] = wz at n9_ n8_ ⊢))
    refine bodyPost_ret (results_ct rfl _ _ g4 28 #[.int .i64 k, .int .i64 x, .int .i64 0, .slice A1 r.length c1] (0, 0) _ rfl n9_.out Tryd.underlying28 rfl (by kernel_rfl)) rfl ?_
    exact ⟨(by rw [hAb1.out.1, hAb1.out.2]; rfl), n8_.out⟩
set_option maxRecDepth 100000 in
set_option maxHeartbeats 4000000 in
theorem one_h3 (t : ByteArray) (k : Nat) (A : Option Addr) (c : Nat) (x : Int) (y : Int) (r : List Int) (w : World) (hr : Kd.C (Kd.int .i64) w A (r.length + 2) (x :: y :: r)) (hc : (r.length + 2) ≤ c) (h : opOf t = k) (h1 : 1 ≤ k) (h2 : k ≤ 27) (hh : hasAt k = 3) :
    Calls Tryd.prog 62 #[.string t, .slice A (r.length + 2) c] w fun e w' => e = .returned (.tuple #[.agg #[.int .i64 k, .int .i64 x, .int .i64 y, .slice none 0 0], .bool ((r.length : Int) == 0)]) ∧ Below w.heap.size w w' := by
  have hu28 := Tryd.underlying28
  have hix := fun W => index_at W k (by omega)
  rw [hh] at hix
  have hfd := field_has (nameAt k) 3
  have hk0 : ((k : Int) == 0) = false := by simp; omega
  have HO := Aside0.mk h
  have HR := Aside0.mk hr
  obtain ⟨A1, c1, hA1, hAb1⟩ := slice_one A (r.length + 1) c (by omega)
  replace hA1 : ∀ W : World, (Instr.slice 26 (.slice A (r.length + 2) c) (some (.int .i64 1)) none none).run Tryd.prog W = .ok (.slice A1 (r.length + 1) c1) W := hA1
  obtain ⟨A2, c2, hA2, hAb2⟩ := slice_one A1 r.length c1 (by have := hAb1.out.2; omega)
  replace hA2 : ∀ W : World, (Instr.slice 26 (.slice A1 (r.length + 1) c1) (some (.int .i64 1)) none none).run Tryd.prog W = .ok (.slice A2 r.length c2) W := hA2
  have X0 := Aside0.mk (num_at0 hr x rfl)
  have X1 := Aside0.mk (num_at hr 1 y rfl)
  clear h hh hr
  go_enter Tryd.func62, Tryd.ntmps62
  go_wp2_with (first
    | ((with_reducible refine gate_dst (N := 4) rfl ?_); refine box_event ?hg (N := 4) ?hd (cs := #[.int .i64 0, .int .i64 0, .int .i64 0, .slice none 0 0]) (t := 28) ?hr ?_; (case hd => rfl); (case hg => rfl); (case hr => first | (go_simp; done) | (go_simp; rfl)); intro g4 hg w2 hbox hb; have BK4 := Aside0.mk hbox; have HB := Aside0.mk hb; have GE4 := Aside0.mk (Nat.le_of_eq hg.symm); clear hg hbox hb)
    | (go_at_call 11; refine (op_any t _).mono ?_; rw [HO.out]; rintro e w3 ⟨rfl, hb⟩; have n1_ := Aside0.mk (blk_below BK4.out hb); have n3_ := Aside0.mk (below_then HB.out HB.out.size hb); clear BK4 HB hb; have BK4 := n1_; have HB := n3_; clear n1_ n3_)
    | ((with_reducible refine gate_dst (N := 6) rfl ?_); refine box_event ?hg (N := 6) ?hd (cs := #[.int .i64 0, .int .i64 0, .int .i64 0, .slice none 0 0]) (t := 28) ?hr ?_; (case hd => rfl); (case hg => rfl); (case hr => first | (go_simp; done) | (go_simp; rfl)); intro g6 hg w4 hbox hb; have BK6 := Aside0.mk hbox; have GE6 := Aside0.mk (show w.heap.size ≤ g6 by rw [hg]; exact HB.out.size); have NE := Aside0.mk (show g4 ≠ g6 by rw [hg]; exact Nat.ne_of_lt (blk_lt BK4.out)); have n1_ := Aside0.mk (blk_below BK4.out hb); have n3_ := Aside0.mk (below_then HB.out HB.out.size hb); clear BK4 HB; have BK4 := n1_; have HB := n3_; clear n1_ n3_ hg hbox hb)
    | (refine wpList_store_row rfl 28 (.tmp 6) (.tmp 12) rfl g6 #[.int .i64 k, .int .i64 0, .int .i64 0, .slice none 0 0] rfl rfl 28 _ BK6.out (by kernel_rfl) rfl (by kernel_rfl) ?_; have n0_ : Aside0 ((w4.setRow g6 #[.int .i64 k, .int .i64 0, .int .i64 0, .slice none 0 0]).heap[g6]? = some (.cells #[.int .i64 k, .int .i64 0, .int .i64 0, .slice none 0 0] 28 (0, 0))) := ⟨setRow_heap _ _ _ _ _ _ BK6.out⟩; have n2_ : Aside0 ((w4.setRow g6 #[.int .i64 k, .int .i64 0, .int .i64 0, .slice none 0 0]).heap[g4]? = some (.cells #[.int .i64 0, .int .i64 0, .int .i64 0, .slice none 0 0] 28 (0, 0))) := ⟨(setRow_other _ _ _ _ NE.out).trans BK4.out⟩; have n1_ := Aside0.mk (below_setRow HB.out GE6.out #[.int .i64 k, .int .i64 0, .int .i64 0, .slice none 0 0]); generalize w4.setRow g6 #[.int .i64 k, .int .i64 0, .int .i64 0, .slice none 0 0] = w5 at n0_ n1_ n2_ ⊢; clear BK4 BK6 HB; have BK6 := n0_; have BK4 := n2_; have HB := n1_; clear n0_ n1_ n2_; have y0 : w5.cell? ⟨g6, 0, none⟩ = some (.int .i64 k) := (blk_cell BK6.out 0).trans rfl; have y1 : w5.cell? ⟨g6, 1, none⟩ = some (.int .i64 0) := (blk_cell BK6.out 1).trans rfl; have y2 : w5.cell? ⟨g6, 2, none⟩ = some (.int .i64 0) := (blk_cell BK6.out 2).trans rfl; have y3 : w5.cell? ⟨g6, 3, none⟩ = some (.slice none 0 0) := (blk_cell BK6.out 3).trans rfl))
  clear y1 y2 y3
  go_cut [7] (fun v7 wc => v7 = .int .i64 3 ∧ Aside0 (wc.heap[g6]? = some (.cells #[.int .i64 k, .int .i64 0, .int .i64 0, .slice none 0 0] 28 (0, 0))) ∧ Aside0 (wc.heap[g4]? = some (.cells #[.int .i64 0, .int .i64 0, .int .i64 0, .slice none 0 0] 28 (0, 0))) ∧ Aside0 (Below w.heap.size w wc))
  case first =>
    have y1 : ∀ o : Obj, (w5.alloc o).cell? ⟨g6, 0, none⟩ = some (.int .i64 k) := fun o => pw_cell_below (below_alloc (Below.refl _ w5) o) y0
    go_region_with (go_at_call 31; refine (table_any _).mono ?_; rintro e w2 ⟨rfl, rfl⟩)
    all_goals go_wp2_with (fail)
    all_goals go_meet
    all_goals exact ⟨rfl, ⟨blk_below BK6.out (below_drew (below_alloc (Below.refl _ _) _))⟩, ⟨blk_below BK4.out (below_drew (below_alloc (Below.refl _ _) _))⟩, ⟨below_then HB.out HB.out.size (below_drew (below_alloc (Below.refl _ _) _))⟩⟩
  case rest =>
    obtain ⟨rfl, BK6, BK4, HB⟩ := hcut
    go_wp2_with (fail)
    have BKP := Aside0.mk (blk_new wc (.cells #[.int .i64 1, .pointer (some ⟨g6, 1, none⟩), .int .i64 2, .pointer (some ⟨g6, 2, none⟩)] 105))
    have GP := Aside0.mk (show g6 ≠ wc.heap.size from Nat.ne_of_lt (blk_lt BK6.out))
    have n0_ := Aside0.mk (blk_below BK6.out (below_alloc (Below.refl _ wc) (.cells #[.int .i64 1, .pointer (some ⟨g6, 1, none⟩), .int .i64 2, .pointer (some ⟨g6, 2, none⟩)] 105)))
    have n1_ := Aside0.mk (blk_below BK4.out (below_alloc (Below.refl _ wc) (.cells #[.int .i64 1, .pointer (some ⟨g6, 1, none⟩), .int .i64 2, .pointer (some ⟨g6, 2, none⟩)] 105)))
    have n2_ := Aside0.mk (below_then HB.out HB.out.size (below_alloc (Below.refl _ wc) (.cells #[.int .i64 1, .pointer (some ⟨g6, 1, none⟩), .int .i64 2, .pointer (some ⟨g6, 2, none⟩)] 105)))
    generalize wc.heap.size = gp at BKP GP ⊢
    generalize wc.alloc (.cells #[.int .i64 1, .pointer (some ⟨g6, 1, none⟩), .int .i64 2, .pointer (some ⟨g6, 2, none⟩)] 105) = w8 at BKP n0_ n1_ n2_ ⊢
    clear BK6 BK4 HB
    have BK6 := n0_
    have BK4 := n1_
    have HB := n2_
    clear n0_ n1_ n2_
    refine wp_loop_rounds 3 ?_
    rw [rounds_succ]
    have p0 : w8.cell? ⟨gp, 0, none⟩ = some (.int .i64 1) := (blk_cell BKP.out 0).trans rfl
    have p1 : w8.cell? ⟨gp, 1, none⟩ = some (.pointer (some ⟨g6, 1, none⟩)) := (blk_cell BKP.out 1).trans rfl
    have hn0 : ((((r.length + 2) : Nat) : Int) == 0) = false := by simp; try omega
    go_wp2_with (fail)
    have n0_ := Aside0.mk (blk_below BK6.out (below_alloc (Below.refl _ w8) (.cells #[.int .i64 1, .pointer (some ⟨g6, 1, none⟩)] 105)))
    have n1_ := Aside0.mk (blk_below BK4.out (below_alloc (Below.refl _ w8) (.cells #[.int .i64 1, .pointer (some ⟨g6, 1, none⟩)] 105)))
    have n3_ := Aside0.mk (blk_below BKP.out (below_alloc (Below.refl _ w8) (.cells #[.int .i64 1, .pointer (some ⟨g6, 1, none⟩)] 105)))
    have n2_ := Aside0.mk (below_then HB.out HB.out.size (below_alloc (Below.refl _ w8) (.cells #[.int .i64 1, .pointer (some ⟨g6, 1, none⟩)] 105)))
    have n4_ := Aside0.mk (blk_new w8 (.cells #[.int .i64 1, .pointer (some ⟨g6, 1, none⟩)] 105))
    generalize w8.alloc (.cells #[.int .i64 1, .pointer (some ⟨g6, 1, none⟩)] 105) = w9 at n0_ n1_ n2_ n3_ n4_ ⊢
    generalize w8.heap.size = g9 at n4_ ⊢
    clear BK6 BK4 HB BKP p0 p1
    have BK6 := n0_
    have BK4 := n1_
    have HB := n2_
    have BKP := n3_
    clear n0_ n1_ n2_ n3_
    have q1 : w9.cell? ⟨g9, 1, none⟩ = some (.pointer (some ⟨g6, 1, none⟩)) := (blk_cell n4_.out 1).trans rfl
    obtain ⟨ad0, hAD, q2⟩ := X0.out
    subst hAD
    replace q2 := pw_cell_below HB.out q2
    have q3 : w9.cell? ⟨g6, 1, none⟩ = some (.int .i64 0) := (blk_cell BK6.out 1).trans rfl
    have q4 : w9.frozen? ⟨g6, 1, none⟩ = false := blk_frozen BK6.out 1
    go_region
    have n0_ := Aside0.mk (blk_drew (blk_put (cs := #[.int .i64 k, .int .i64 0, .int .i64 0, .slice none 0 0]) (cs' := #[.int .i64 k, .int .i64 x, .int .i64 0, .slice none 0 0]) BK6.out 1 (.int .i64 x) rfl))
    have n1_ := Aside0.mk (blk_drew (blk_far BK4.out (p := ⟨g6, 1, none⟩) NE.out (.int .i64 x)))
    have n2_ := Aside0.mk (below_drew1 (below_set (g := g6) (j := 1) (v := .int .i64 x) HB.out GE6.out))
    have n3_ := Aside0.mk (blk_drew (blk_far BKP.out (p := ⟨g6, 1, none⟩) (Ne.symm GP.out) (.int .i64 x)))
    generalize (w9.setCell ⟨g6, 1, none⟩ (.int .i64 x)).drew = w10 at n0_ n1_ n2_ n3_ ⊢
    clear BK6 BK4 HB BKP q1 q2 q3 q4
    have BK6 := n0_
    have BK4 := n1_
    have HB := n2_
    have BKP := n3_
    clear n0_ n1_ n2_ n3_ n4_
    go_wp2_with (fail)
    clear hn0
    rw [rounds_succ]
    have p2 : w10.cell? ⟨gp, 2, none⟩ = some (.int .i64 2) := (blk_cell BKP.out 2).trans rfl
    have p3 : w10.cell? ⟨gp, 3, none⟩ = some (.pointer (some ⟨g6, 2, none⟩)) := (blk_cell BKP.out 3).trans rfl
    have hn0 : ((((r.length + 1) : Nat) : Int) == 0) = false := by simp; try omega
    go_wp2_with (fail)
    have n0_ := Aside0.mk (blk_below BK6.out (below_alloc (Below.refl _ w10) (.cells #[.int .i64 2, .pointer (some ⟨g6, 2, none⟩)] 105)))
    have n1_ := Aside0.mk (blk_below BK4.out (below_alloc (Below.refl _ w10) (.cells #[.int .i64 2, .pointer (some ⟨g6, 2, none⟩)] 105)))
    have n3_ := Aside0.mk (blk_below BKP.out (below_alloc (Below.refl _ w10) (.cells #[.int .i64 2, .pointer (some ⟨g6, 2, none⟩)] 105)))
    have n2_ := Aside0.mk (below_then HB.out HB.out.size (below_alloc (Below.refl _ w10) (.cells #[.int .i64 2, .pointer (some ⟨g6, 2, none⟩)] 105)))
    have n4_ := Aside0.mk (blk_new w10 (.cells #[.int .i64 2, .pointer (some ⟨g6, 2, none⟩)] 105))
    generalize w10.alloc (.cells #[.int .i64 2, .pointer (some ⟨g6, 2, none⟩)] 105) = w12 at n0_ n1_ n2_ n3_ n4_ ⊢
    generalize w10.heap.size = g10 at n4_ ⊢
    clear BK6 BK4 HB BKP p2 p3
    have BK6 := n0_
    have BK4 := n1_
    have HB := n2_
    have BKP := n3_
    clear n0_ n1_ n2_ n3_
    have q1 : w12.cell? ⟨g10, 1, none⟩ = some (.pointer (some ⟨g6, 2, none⟩)) := (blk_cell n4_.out 1).trans rfl
    obtain ⟨ad1, hAD, q2⟩ := (by obtain ⟨a, e, q⟩ := X1.out; exact ⟨a.add 1, by rw [hAb1.out.1, tailA, if_neg (by omega), e]; rfl, q⟩ : ∃ ad1, A1 = some ad1 ∧ w.cell? ad1 = some (.int .i64 y))
    subst hAD
    replace q2 := pw_cell_below HB.out q2
    have q3 : w12.cell? ⟨g6, 2, none⟩ = some (.int .i64 0) := (blk_cell BK6.out 2).trans rfl
    have q4 : w12.frozen? ⟨g6, 2, none⟩ = false := blk_frozen BK6.out 2
    go_region
    have n0_ := Aside0.mk (blk_drew (blk_put (cs := #[.int .i64 k, .int .i64 x, .int .i64 0, .slice none 0 0]) (cs' := #[.int .i64 k, .int .i64 x, .int .i64 y, .slice none 0 0]) BK6.out 2 (.int .i64 y) rfl))
    have n1_ := Aside0.mk (blk_drew (blk_far BK4.out (p := ⟨g6, 2, none⟩) NE.out (.int .i64 y)))
    have n2_ := Aside0.mk (below_drew1 (below_set (g := g6) (j := 2) (v := .int .i64 y) HB.out GE6.out))
    have n3_ := Aside0.mk (blk_drew (blk_far BKP.out (p := ⟨g6, 2, none⟩) (Ne.symm GP.out) (.int .i64 y)))
    generalize (w12.setCell ⟨g6, 2, none⟩ (.int .i64 y)).drew = w13 at n0_ n1_ n2_ n3_ ⊢
    clear BK6 BK4 HB BKP q1 q2 q3 q4
    have BK6 := n0_
    have BK4 := n1_
    have HB := n2_
    have BKP := n3_
    clear n0_ n1_ n2_ n3_ n4_
    go_wp2_with (fail)
    clear hn0
    rw [rounds_succ]
    have y0 : w13.cell? ⟨g6, 0, none⟩ = some (.int .i64 k) := (blk_cell BK6.out 0).trans rfl
    have y1 : w13.cell? ⟨g6, 1, none⟩ = some (.int .i64 x) := (blk_cell BK6.out 1).trans rfl
    have y2 : w13.cell? ⟨g6, 2, none⟩ = some (.int .i64 y) := (blk_cell BK6.out 2).trans rfl
    have y3 : w13.cell? ⟨g6, 3, none⟩ = some (.slice none 0 0) := (blk_cell BK6.out 3).trans rfl
    go_wp2_with (first | (refine wpList_store_row rfl 28 (.tmp 4) (.tmp 56) rfl g4 #[.int .i64 k, .int .i64 x, .int .i64 y, .slice none 0 0] rfl rfl 28 _ BK4.out (by kernel_rfl) rfl (by kernel_rfl) ?_; have n9_ : Aside0 ((w13.setRow g4 #[.int .i64 k, .int .i64 x, .int .i64 y, .slice none 0 0]).heap[g4]? = some (.cells #[.int .i64 k, .int .i64 x, .int .i64 y, .slice none 0 0] 28 (0, 0))) := ⟨setRow_heap _ _ _ _ _ _ BK4.out⟩; have n8_ := Aside0.mk (below_setRow HB.out GE4.out #[.int .i64 k, .int .i64 x, .int .i64 y, .slice none 0 0]); generalize w13.setRow g4 #[.int .i64 k, .int .i64 x, .int .i64 y, .slice none 0 0] = wz at n9_ n8_ ⊢))
    refine bodyPost_ret (results_ct rfl _ _ g4 28 #[.int .i64 k, .int .i64 x, .int .i64 y, .slice none 0 0] (0, 0) _ rfl n9_.out Tryd.underlying28 rfl (by kernel_rfl)) rfl ?_
    exact ⟨rfl, n8_.out⟩
end Go.Proofs.YtfkfgjmhcfagkaaDoor.Given
