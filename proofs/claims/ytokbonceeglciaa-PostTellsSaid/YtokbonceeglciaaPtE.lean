/- Lemmas for the claim (what no proof of it names is left out). -/
import Derived.Test.YtokbonceeglciaaPtD
import Derived.BigQuiet
import Derived.Handy
import Derived.Test.YtokbonceeglciaaPtA
import Derived.Test.YtokbonceeglciaaPtB
import Derived.Deep.Slices
import Derived.ChangeArms
import Derived.DataReads
import Derived.SizedLaws
import Derived.Below
import Derived.ChangeSlices
section
namespace Go.Proofs.Ytokbonceeglciaa.Bk
open Go.RowKit Go.Proofs.YtokbonceeglciaaW.PrintWords Go.Proofs.YtokbonceeglciaaW.PrintLast Go.Proofs.YtokbonceeglciaaW.PrintMore Go.Proofs.Ytokbonceeglciaa.Print Go.Proofs.Ytokbonceeglciaa.Given
set_option linter.unusedVariables false
set_option linter.unusedSimpArgs false
def FL (l : List S38) (j : Nat) : List S43 := (l.getD j z38).f1
theorem FL_at {l : List S38} {j : Nat} {x : S38} (h : l[j]? = some x) : FL l j = x.f1 := by
  unfold FL
  rw [List.getD_eq_getElem?_getD, h]
  rfl
theorem withF_self (l : List S38) : withF l (FL l) = l := by
  unfold withF
  apply List.ext_getElem?
  intro j
  rw [List.getElem?_mapIdx]
  cases h : l[j]? with
  | none => rfl
  | some x => rw [Option.map_some, FL_at h]
theorem copy_arms (W0 w : World) (g : Nat) (A1 : Option Addr) (c1 : Nat) (xs : List S43) (ty : TypeId) (h : w.heap[g]? = some (.cells (reps zero43 (xs.length + 1)).toArray 43 (0, 0))) (hC : Kd.C k43 W0 A1 xs.length xs) (hb : Below W0.heap.size W0 w) :
    ∃ cs : List Value, (Builtin.copy_ #[36, 36] ty #[.slice (some ⟨g, 0, none⟩) (xs.length + 1) (xs.length + 1), .slice A1 xs.length c1]).run Try.prog w = .ok (.int .i64 (xs.length : Int)) (w.setRow g (cs ++ zero43).toArray) ∧ cs.length = xs.length * 5 ∧ ∀ (t : Nat) (a : S43), xs[t]? = some a → k43.K W0 a (seg cs 5 t) := by
  have hz : (Try.prog.info? 43).map (·.size) = some 5 := by kernel_rfl
  by_cases hp : 0 < xs.length
  · obtain ⟨ad, cs, rfl, h1, h2, h3, h4⟩ := C_flat hC hp
    rw [show k43.sz = 5 from rfl] at h1
    have hmin : Nat.min xs.length (xs.length + 1) = xs.length := Nat.min_eq_left (by omega)
    have hr := run_copy_sz (P := Try.prog) w 36 36 ty 43 g 0 (xs.length + 1) (xs.length + 1) ad xs.length c1 5 (reps zero43 (xs.length + 1)).toArray 43 cs Try.underlying36 hz h (by rw [hmin, h1]) (fun j v hv => by
      have := h2 j v hv
      exact (hb.cell (World.block_lt_of_cell? W0 _ this)).trans this) (by rw [List.size_toArray, reps_len, h1]; simp [zero43]; omega) h3
    refine ⟨cs, ?_, h1, h4⟩
    rw [hr, hmin]
    congr 2
    rw [List.take_zero, List.nil_append, Nat.zero_add]
    congr 1
    have e : (reps zero43 (xs.length + 1)).drop cs.length = zero43 := by
      have hl : (reps zero43 xs.length).length = cs.length := by rw [reps_len, h1]; rfl
      rw [reps, ← hl, List.drop_left]
    exact congrArg _ e
  · have h0 : xs.length = 0 := by omega
    refine ⟨[], ?_, by rw [h0]; rfl, fun t a ht => by have := (List.getElem?_eq_some_iff.1 ht).1; omega⟩
    have hr := run_copy_sz0 (P := Try.prog) w 36 36 ty 43 (some ⟨g, 0, none⟩) (xs.length + 1) (xs.length + 1) A1 c1 5 Try.underlying36 hz
    rw [h0] at hr ⊢
    rw [hr]
    rw [h0] at h
    have : w.setRow g (([] : List Value) ++ zero43).toArray = w := setRow_self w g _ 43 (0, 0) h
    rw [this]
    rfl
theorem mark_row (cs : List Value) {n : Nat} (h : cs.length = n * 5) : (cs ++ zero43).toArray.setIfInBounds (n * 5) (.int .i64 (-99)) = (cs ++ tail43).toArray := by
  rw [List.setIfInBounds_toArray, List.set_append_right _ _ (by omega), h, Nat.sub_self]
  rfl
theorem set_rows {c r : List Value} {n : Nat} {a b : Value} (h : c.length = n * 2) : ((c ++ (zero38 ++ r)).toArray.setIfInBounds (n * 2) a).setIfInBounds (n * 2 + 1) b = (c ++ ([a, b] ++ r)).toArray := by
  rw [List.setIfInBounds_toArray, List.setIfInBounds_toArray, List.set_append_right _ _ (by omega), h, Nat.sub_self, List.set_append_right _ _ (by omega), h, Nat.add_sub_cancel_left]
  rfl
theorem set_mark {c : List Value} {n : Nat} (h : c.length = n * 2) : (c ++ (zero38 ++ [])).toArray.setIfInBounds (n * 2) (.int .i64 (-99)) = (c ++ tail38).toArray := by
  rw [List.setIfInBounds_toArray, List.set_append_right _ _ (by omega), h, Nat.sub_self]
  rfl
set_option maxRecDepth 100000 in
set_option maxHeartbeats 4000000 in
theorem lent_any (A : Option Addr) (c : Nat) (l : List S38) (W0 w : World) (hr : Kd.C k38 W0 A l.length l) (hb0 : Below W0.heap.size W0 w) (hc : l.length ≤ c) (hl : l.length ≤ 4000) (hm : ∀ x ∈ l, x.f1.length ≤ 4000) :
    Calls Try.prog 8 #[.slice A l.length c] w fun e w' => ∃ (ga : Nat) (gs : List Nat) (vr : Value), e = .returned (.tuple #[.slice (some ⟨ga, 0, none⟩) (l.length + 1) (l.length + 1), vr]) ∧ Lent W0 w' w.heap.size l (FL l) gs ga tail38 vr ∧ Below w.heap.size w w' := by
  have HR := Aside0.mk hr
  have HB00 := Aside0.mk hb0
  have HM := Aside0.mk hm
  have HC := Aside0.mk hc
  obtain ⟨Z, hZ⟩ : ∃ Z, Z = reps zero38 (l.length + 1) := ⟨_, rfl⟩
  have hw1 : IntKind.i64.wrap ((l.length : Int) + 1) = (l.length : Int) + 1 := Go.IntWalk.i64_in _ (by omega)
  have hmk : ∀ W : World, (Instr.makeSlice 22 (.int .i64 ((l.length : Int) + 1)) (.int .i64 ((l.length : Int) + 1))).run Try.prog W = .ok (.slice (some ⟨W.heap.size, 0, none⟩) (l.length + 1) (l.length + 1)) (W.alloc (.cells Z.toArray 38)) := fun W => by
    have h := make38 W (l.length + 1) (by omega)
    rw [Int.natCast_add] at h
    rw [hZ]
    exact h
  have HZ := Aside0.mk hZ
  clear hr hb0 hm hZ hc
  go_enter Try.func8, Try.ntmps8
  go_upto_region 2 with (fail)
  obtain ⟨ga, hga⟩ : ∃ g_, g_ = w.heap.size := ⟨_, rfl⟩
  rw [← hga]
  have HB0 := Aside0.mk (below_alloc (Below.refl _ w) (.cells Z.toArray 38))
  have HG0 : Aside0 ((w.alloc (.cells Z.toArray 38)).heap[ga]? = some (.cells Z.toArray 38 (0, 0))) := ⟨by rw [hga]; exact heap_alloc_new _ _⟩
  have HGA := Aside0.mk hga
  generalize w.alloc (.cells Z.toArray 38) = w1 at HB0 HG0 ⊢
  clear hga hmk
  go_upto_region 3 with ((with_reducible refine gate_dst (N := 12) rfl ?_); go_loud (refine Kd.R_lit (Kd.raw 1) (w0 := w1) w.heap.size 36 ?hg (N := 12) ?hd (xs := ([] : List (List Value))) (inner := []) (ok := Any) (okp := Any) ?hr ?hp (fun _ hk => hk) trivial ?hb ?hs (by simp) ?_); (case hd => rfl); (case hg => rfl); (case hr => first | (go_simp; done) | (go_simp; rfl)); (case hp => exact (Reps.none _ _)); (case hb => exact Below.refl _ _); (case hs => exact HB0.out.size); intro v5 w2 ho hb hg2 _; have HO := Aside0.mk ho; have HB := Aside0.mk hb; have HGR := Aside0.mk hg2; clear ho hb hg2)
  have HLE : Aside0 (Lent W0 w2 w.heap.size (l.take 0) (FL l) [] ga (reps zero38 (l.length + 1 - 0)) v5) := by
    rw [List.take_zero]
    refine ⟨⟨rfl, Nat.le_of_eq HGA.out.symm, (fun g hg => by cases hg), List.nodup_nil, ?_, HO.out, (fun j g hg => by simp at hg), (fun j x hx => by simp at hx)⟩⟩
    show w2.heap[ga]? = some (.cells (reps zero38 (l.length + 1)).toArray 38 (0, 0))
    rw [← HZ.out]
    exact blk_grown HG0.out HGR.out (by simp)
  have HBW : Aside0 (Below w.heap.size w w2) := ⟨HB0.out.trans HB.out⟩
  clear HO HB HGR HG0 HB0 HZ
  go_wp2_with (fail)
  go_loopw [5, 6, 7] (fun v5 v6 v7 wr => ∃ (i : Nat) (gs : List Nat), v6 = .int .i64 i ∧ i ≤ l.length ∧ Aside0 (Lent W0 wr w.heap.size (l.take i) (FL l) gs ga (reps zero38 (l.length + 1 - i)) v5) ∧ Aside0 (Below w.heap.size w wr)) (fun _ v6 _ _ => l.length - (intOf v6).toNat)
  case atStart => exact ⟨0, [], rfl, by omega, HLE, HBW⟩
  case round =>
    clear HLE HBW
    obtain ⟨i, gs, rfl, hi, HLE, HBW⟩ := hrel
    by_cases hlt : i < l.length
    · obtain ⟨ad, A1, c1, rfl, x0, x1, hl1, hC1⟩ := at_T38 HR.out (i : Int) (by omega) (by omega)
      have hel : rd_T38 l i = l[i] := by simp [rd_T38, List.getElem?_eq_getElem hlt]
      have hxm := HM.out l[i] (List.getElem_mem hlt)
      have hli : l[i]? = some l[i] := List.getElem?_eq_getElem hlt
      obtain ⟨x, hx⟩ : ∃ x, x = l[i] := ⟨_, rfl⟩
      rw [hel, Int.toNat_natCast, ← hx] at x0 x1
      rw [hel, ← hx] at hl1 hC1
      rw [← hx] at hxm hli
      replace x0 := pw_cell_below HB00.out x0
      replace x1 := pw_cell_below HB00.out x1
      obtain ⟨id, xs⟩ := x
      dsimp only at x0 x1 hl1 hC1 hxm
      have X0 := Aside0.mk x0
      have X1 := Aside0.mk x1
      have HC1 := Aside0.mk hC1
      have HLI := Aside0.mk hli
      have HXM := Aside0.mk hxm
      have y0 := pw_cell_below HBW.out x0
      have y1 := pw_cell_below HBW.out x1
      obtain ⟨Z, hZ⟩ : ∃ Z, Z = reps zero43 (xs.length + 1) := ⟨_, rfl⟩
      have hw1 : IntKind.i64.wrap ((xs.length : Int) + 1) = (xs.length : Int) + 1 := Go.IntWalk.i64_in _ (by omega)
      have hmk : ∀ W : World, (Instr.makeSlice 36 (.int .i64 ((xs.length : Int) + 1)) (.int .i64 ((xs.length : Int) + 1))).run Try.prog W = .ok (.slice (some ⟨W.heap.size, 0, none⟩) (xs.length + 1) (xs.length + 1)) (W.alloc (.cells Z.toArray 43)) := fun W => by
        have h := make43 W (xs.length + 1) (by omega)
        rw [Int.natCast_add] at h
        rw [hZ]
        exact h
      have HZ := Aside0.mk hZ
      clear hx hel x0 x1 hC1 hli hxm hZ
      go_upto_region 7 with (fail)
      obtain ⟨gm, hgm⟩ : ∃ g_, g_ = wr.heap.size := ⟨_, rfl⟩
      rw [← hgm]
      have HG1 : Aside0 ((wr.alloc (.cells Z.toArray 43)).heap[gm]? = some (.cells (reps zero43 (xs.length + 1)).toArray 43 (0, 0))) := ⟨by rw [hgm, ← HZ.out]; exact heap_alloc_new _ _⟩
      have HB1 := Aside0.mk (below_alloc (Below.refl _ wr) (.cells Z.toArray 43))
      have HGM := Aside0.mk hgm
      generalize wr.alloc (.cells Z.toArray 43) = w3 at HG1 HB1 ⊢
      clear hgm hmk y0 y1 hw1
      have z0 := pw_cell_below (below_then HBW.out HBW.out.size HB1.out) X0.out
      have z1 := pw_cell_below (below_then HBW.out HBW.out.size HB1.out) X1.out
      obtain ⟨cs, hcp, hcl, hck⟩ := copy_arms W0 w3 gm A1 c1 xs 3 HG1.out HC1.out (below_then HB00.out HB00.out.size (below_then HBW.out HBW.out.size HB1.out))
      have HCP := Aside0.mk hcp
      have HCL := Aside0.mk hcl
      have HCK := Aside0.mk hck
      clear hcp hcl hck
      go_upto_region 8 with ((with_reducible refine gate_dst (N := 33) rfl ?_); go_loud (refine Lib.wpList_copy_run _ rfl (.tmp 27) (.tmp 32) 36 36 rfl _ _ rfl rfl HCP.out ?_))
      have HG4 : Aside0 ((w3.setRow gm (cs ++ zero43).toArray).heap[gm]? = some (.cells (cs ++ zero43).toArray 43 (0, 0))) := ⟨setRow_heap _ _ _ _ _ _ HG1.out⟩
      have HB4 : Aside0 (Below wr.heap.size wr (w3.setRow gm (cs ++ zero43).toArray)) := ⟨below_setRow HB1.out (Nat.le_of_eq HGM.out.symm) _⟩
      generalize w3.setRow gm (cs ++ zero43).toArray = w4 at HG4 HB4 ⊢
      clear z0 z1 HCP HG1 HB1 HZ
      have z0 := pw_cell_below (below_then HBW.out HBW.out.size HB4.out) X0.out
      have z1 := pw_cell_below (below_then HBW.out HBW.out.size HB4.out) X1.out
      have hc0 : w4.cell? ⟨gm, xs.length * 5, none⟩ = some (.int .i64 0) := by
        rw [blk_cell HG4.out, List.getElem?_toArray, List.getElem?_append_right (by rw [HCL.out]; exact Nat.le_refl _), HCL.out, Nat.sub_self]
        rfl
      have hf0 : w4.frozen? ⟨gm, xs.length * 5, none⟩ = false := blk_frozen HG4.out _
      go_upto_region 9 with (fail)
      have HG5 : Aside0 ((w4.setCell ⟨gm, xs.length * 5, none⟩ (.int .i64 (-99))).heap[gm]? = some (.cells (cs ++ tail43).toArray 43 (0, 0))) := ⟨(blk_set HG4.out _ _).trans (by rw [mark_row cs HCL.out])⟩
      have HB5 : Aside0 (Below wr.heap.size wr (w4.setCell ⟨gm, xs.length * 5, none⟩ (.int .i64 (-99)))) := ⟨below_setG HB4.out (Nat.le_of_eq HGM.out.symm) _ _⟩
      generalize w4.setCell ⟨gm, xs.length * 5, none⟩ (.int .i64 (-99)) = w5 at HG5 HB5 ⊢
      clear z0 z1 HG4 HB4 hc0 hf0
      have HLE5 := Aside0.mk (HLE.out.below HB5.out)
      have HBW5 := Aside0.mk (below_then HBW.out HBW.out.size HB5.out)
      have HGS : Aside0 (gs.length = i) := ⟨by have := HLE.out.len; rw [List.length_take] at this; omega⟩
      have HNG : Aside0 (gm ∉ gs) := ⟨fun hmem => by have := HLE.out.lt gm hmem; have := HGM.out; omega⟩
      clear HLE HB5
      go_upto_region 10 with ((with_reducible refine gate_builtin (b := .append) (xs := #[.tmp 43, .tmp 45]) rfl ?_); at_builtin; go_loud (refine Kd.R_append (Kd.raw 1) (w0 := w5) w.heap.size rfl (.tmp 43) (.tmp 45) 29 36 (.slice none 0 0) 24 rfl Try.underlying29 info36 rfl (by decide) (by omega) _ (rowsM (l.take i) gs) [.slice (some ⟨gm, 0, none⟩) (xs.length + 1) (xs.length + 1)] [.slice (some ⟨gm, 0, none⟩) (xs.length + 1) (xs.length + 1)] Any (fun _ => False) rfl rfl ?aP (fun _ hk => hk.elim) (fun _ _ => trivial) ?aO (Below.refl _ _) ?aS ?aL ?_); (case aP => exact raw_one _ rfl _ _ _); (case aO => exact HLE5.out.rows); (case aS => exact HBW5.out.size); (case aL => rw [rowsM_len _ _ HLE5.out.len, List.length_take]; omega); intro u6 w6 ho hb hg hat; have HO6 := Aside0.mk ho; have HB6 := Aside0.mk hb; have HG6 := Aside0.mk hg; clear ho hb hg hat)
      have K43 : Aside0 (KT 43 w5 w6) := ⟨KT.grown HG6.out (Kd.R_typed HLE5.out.rows) (by decide)⟩
      have K38 : Aside0 (KT 38 w5 w6) := ⟨KT.grown HG6.out (Kd.R_typed HLE5.out.rows) (by decide)⟩
      have HGm := Aside0.mk (K43.out _ _ HG5.out)
      have HGa := Aside0.mk (K38.out _ _ HLE5.out.blk)
      have HBW6 := Aside0.mk (HBW5.out.trans HB6.out)
      have HAR := Aside0.mk (fun (j g : Nat) (hg : gs[j]? = some g) => (HLE5.out.arms j g hg).kt K43.out)
      have z0 := pw_cell_below HBW6.out X0.out
      have z1 := pw_cell_below HBW6.out X1.out
      obtain ⟨m, hm1⟩ : ∃ m, l.length + 1 - i = m + 1 := ⟨l.length - i, by omega⟩
      have hcat : (catA (l.take i) gs).length = i * 2 := by rw [catA_len _ _ HLE5.out.len, List.length_take, Nat.min_eq_left (by omega)]
      have HCAT := Aside0.mk hcat
      have HGa2 : Aside0 (w6.heap[ga]? = some (.cells (catA (l.take i) gs ++ (zero38 ++ reps zero38 m)).toArray 38 (0, 0))) := ⟨by rw [← reps_front, ← hm1]; exact HGa.out⟩
      have HM1 := Aside0.mk hm1
      clear hm1 hcat HGa
      have hc0 : w6.cell? ⟨ga, i * 2, none⟩ = some (.int .i64 0) := by
        rw [blk_cell HGa2.out, List.getElem?_toArray, List.getElem?_append_right (by rw [HCAT.out]; exact Nat.le_refl _), HCAT.out, Nat.sub_self]
        rfl
      have hc1 : w6.cell? ⟨ga, i * 2 + 1, none⟩ = some (.slice none 0 0) := by
        rw [blk_cell HGa2.out, List.getElem?_toArray, List.getElem?_append_right (by rw [HCAT.out]; omega), HCAT.out, Nat.add_sub_cancel_left]
        rfl
      have hf0 : w6.frozen? ⟨ga, i * 2, none⟩ = false := blk_frozen HGa2.out _
      have hf1 : w6.frozen? ⟨ga, i * 2 + 1, none⟩ = false := blk_frozen HGa2.out _
      go_region
      obtain ⟨W7, hW7⟩ : ∃ W7, W7 = ((w6.setCell ⟨ga, i * 2, none⟩ (.int .i64 id)).setCell ⟨ga, i * 2 + 1, none⟩ (.slice (some ⟨gm, 0, none⟩) xs.length (xs.length + 1))).drew := ⟨_, rfl⟩
      rw [← hW7]
      have htk : l.take (i + 1) = l.take i ++ [⟨id, xs⟩] := by rw [List.take_add_one, HLI.out]; rfl
      have HN : Aside0 (Lent W0 W7 w.heap.size (l.take (i + 1)) (FL l) (gs ++ [gm]) ga (reps zero38 m) u6) := by
        have hga : w.heap.size ≤ ga := Nat.le_of_eq HGA.out.symm
        have hb1 := blk_set HGa2.out (i * 2) (.int .i64 id)
        have hb2 := blk_set hb1 (i * 2 + 1) (.slice (some ⟨gm, 0, none⟩) xs.length (xs.length + 1))
        have kt : ∀ t, t ≠ 38 → KT t w6 W7 := fun t ht => by
          rw [hW7]
          exact ((KT.set HGa2.out ht _ _).trans (KT.set hb1 ht _ _)).trans (KT.below (below_drew (Below.refl _ _)))
        have hl5 := HLE5.out.len
        refine ⟨⟨?_, hga, ?_, ?_, ?_, ?_, ?_, ?_⟩⟩
        · rw [htk, List.length_append, List.length_append, hl5]
          rfl
        · intro g hg
          rcases List.mem_append.1 hg with hg | hg
          · exact HLE5.out.lows g hg
          · obtain rfl : g = gm := by simpa using hg
            have := HGM.out
            have := HBW.out.size
            omega
        · refine List.nodup_append.2 ⟨HLE5.out.nod, by simp, fun a ha b hb => ?_⟩
          obtain rfl : b = gm := by simpa using hb
          exact fun e => HNG.out (e ▸ ha)
        · rw [htk, catA_snoc _ _ _ _ hl5, hW7]
          refine (blk_drew hb2).trans ?_
          rw [set_rows HCAT.out, ← List.append_assoc]
          rfl
        · rw [htk, rowsM_snoc _ _ _ _ hl5]
          exact R_kt rfl HO6.out (kt 36 (by decide))
        · intro j g hg
          by_cases hj : j < gs.length
          · rw [List.getElem?_append_left hj] at hg
            exact (HAR.out j g hg).kt (kt 43 (by decide))
          · rw [List.getElem?_append_right (by omega)] at hg
            have hj2 : j - gs.length = 0 := by
              have := (List.getElem?_eq_some_iff.1 hg).1
              simp at this
              omega
            rw [hj2] at hg
            injection hg with hg
            subst hg
            have : j = i := by have := HGS.out; omega
            subst this
            rw [FL_at HLI.out]
            exact ⟨cs, kt 43 (by decide) _ _ HGm.out, HCL.out, HCK.out⟩
        · intro j x hx
          have hx2 : l[j]? = some x := by
            have hj := (List.getElem?_eq_some_iff.1 hx).1
            rw [List.length_take] at hj
            rw [List.getElem?_take, if_pos (by omega)] at hx
            exact hx
          rw [FL_at hx2]
      have HBN : Aside0 (Below w.heap.size w W7) := ⟨by rw [hW7]; exact below_drew (below_setG (below_setG HBW6.out (Nat.le_of_eq HGA.out.symm) _ _) (Nat.le_of_eq HGA.out.symm) _ _)⟩
      clear htk hW7 z0 z1 hc0 hc1 hf0 hf1
      go_wp2_with (fail)
      go_roundw
      case rel => exact ⟨i + 1, gs ++ [gm], by go_num, by omega, ⟨by have := HN.out; have hm := HM1.out; rw [show l.length + 1 - (i + 1) = m by omega]; exact this⟩, HBN⟩
      case measure => simp [intOf]; omega
    · obtain rfl : i = l.length := by omega
      have hrest : reps zero38 (l.length + 1 - l.length) = zero38 ++ [] := by rw [Nat.add_sub_cancel_left]; rfl
      have hcat : (catA (l.take l.length) gs).length = l.length * 2 := by rw [catA_len _ _ HLE.out.len, List.length_take, Nat.min_self]
      have hgb := HLE.out.blk
      rw [hrest] at hgb
      have HGB := Aside0.mk hgb
      have HCAT := Aside0.mk hcat
      clear hrest hgb hcat
      have hc0 : wr.cell? ⟨ga, l.length * 2, none⟩ = some (.int .i64 0) := by
        rw [blk_cell HGB.out, List.getElem?_toArray, List.getElem?_append_right (by rw [HCAT.out]; exact Nat.le_refl _), HCAT.out, Nat.sub_self]
        rfl
      have hf0 : wr.frozen? ⟨ga, l.length * 2, none⟩ = false := blk_frozen HGB.out _
      go_wp2_with (fail)
      have HN : Aside0 (Lent W0 (wr.setCell ⟨ga, l.length * 2, none⟩ (.int .i64 (-99))) w.heap.size l (FL l) gs ga tail38 u5) := by
        have kt : ∀ t, t ≠ 38 → KT t wr (wr.setCell ⟨ga, l.length * 2, none⟩ (.int .i64 (-99))) := fun t ht => KT.set HGB.out ht _ _
        have h := HLE.out
        have hb := blk_set HGB.out (l.length * 2) (.int .i64 (-99))
        rw [set_mark HCAT.out, List.take_length] at hb
        rw [List.take_length] at h
        exact ⟨⟨h.len, h.low, h.lows, h.nod, hb, R_kt rfl h.rows (kt 36 (by decide)), fun j g hg => (h.arms j g hg).kt (kt 43 (by decide)), h.flen⟩⟩
      go_ret2
      exact ⟨ga, gs, u5, rfl, HN.out, below_setG HBW.out (Nat.le_of_eq HGA.out.symm) _ _⟩
end Go.Proofs.Ytokbonceeglciaa.Bk
end
section
namespace Go.Proofs.Ytokbonceeglciaa.Bk
open Go.RowKit Go.Proofs.YtokbonceeglciaaW.PrintWords Go.Proofs.YtokbonceeglciaaW.PrintLast Go.Proofs.YtokbonceeglciaaW.PrintMore Go.Proofs.Ytokbonceeglciaa.Print Go.Proofs.Ytokbonceeglciaa.Given
set_option linter.unusedVariables false
set_option linter.unusedSimpArgs false
def flipS (a : S43) : S43 := ⟨a.f0, !a.f1, a.f2⟩
def flK (xs : List S43) (k : Nat) : List S43 := (xs.take k).map flipS ++ xs.drop k
theorem flK_zero (xs : List S43) : flK xs 0 = xs := by simp [flK]
theorem flK_len (xs : List S43) (k : Nat) : (flK xs k).length = xs.length := by
  unfold flK
  rw [List.length_append, List.length_map, List.length_take, List.length_drop]
  omega
theorem flK_all (xs : List S43) : flK xs xs.length = xs.map flipS := by simp [flK]
theorem flK_at (xs : List S43) (k t : Nat) (a : S43) (h : (flK xs k)[t]? = some a) : ∃ b, xs[t]? = some b ∧ a = if t < k then flipS b else b := by
  unfold flK at h
  by_cases ht : t < ((xs.take k).map flipS).length
  · rw [List.getElem?_append_left ht] at h
    rw [List.length_map, List.length_take] at ht
    rw [List.getElem?_map, List.getElem?_take, if_pos (by omega)] at h
    obtain ⟨b, hb, rfl⟩ := Option.map_eq_some_iff.1 h
    exact ⟨b, hb, by rw [if_pos (by omega)]⟩
  · rw [List.getElem?_append_right (by omega), List.getElem?_drop] at h
    rw [List.length_map, List.length_take] at h ht
    by_cases hk : k ≤ xs.length
    · rw [Nat.min_eq_left hk] at h ht
      rw [show k + (t - k) = t by omega] at h
      exact ⟨a, h, by rw [if_neg (by omega)]⟩
    · have := (List.getElem?_eq_some_iff.1 h).1
      omega
theorem flK_of (xs : List S43) (k t : Nat) (b : S43) (h : xs[t]? = some b) : (flK xs k)[t]? = some (if t < k then flipS b else b) := by
  have ht := (List.getElem?_eq_some_iff.1 h).1
  obtain ⟨a, ha⟩ : ∃ a, (flK xs k)[t]? = some a := ⟨_, List.getElem?_eq_getElem (by rw [flK_len]; exact ht)⟩
  obtain ⟨b', hb, e⟩ := flK_at xs k t a ha
  rw [h] at hb
  injection hb with hb
  rw [ha, e, hb]
def FF (l : List S38) (i k j : Nat) : List S43 := if j < i then (FL l j).map flipS else if j = i then flK (FL l j) k else FL l j
theorem FF_start (l : List S38) : FF l 0 0 = FL l := by
  funext j
  unfold FF
  rw [if_neg (by omega), flK_zero]
  split <;> rfl
theorem FF_next (l : List S38) (i : Nat) {n : Nat} (h : (FL l i).length = n) : FF l i n = FF l (i + 1) 0 := by
  funext j
  unfold FF
  by_cases h1 : j < i
  · rw [if_pos h1, if_pos (by omega)]
  · rw [if_neg h1]
    by_cases h2 : j = i
    · subst h2
      rw [if_pos rfl, if_pos (by omega), ← h, flK_all]
    · rw [if_neg h2, if_neg (by omega), flK_zero]
      split <;> rfl
theorem FF_len (l : List S38) (i k j : Nat) : (FF l i k j).length = (FL l j).length := by
  unfold FF
  split
  · rw [List.length_map]
  · split
    · rw [flK_len]
    · rfl
def flipW (x : S38) : S38 := ⟨x.f0, x.f1.map flipS⟩
theorem withF_flip (l : List S38) : withF l (FF l l.length 0) = l.map flipW := by
  unfold withF
  apply List.ext_getElem?
  intro j
  rw [List.getElem?_mapIdx, List.getElem?_map]
  cases h : l[j]? with
  | none => rfl
  | some x =>
    have hj := (List.getElem?_eq_some_iff.1 h).1
    rw [Option.map_some, Option.map_some]
    unfold FF
    rw [if_pos hj, FL_at h]
    rfl
theorem arm_cell {W0 w : World} {g k : Nat} {xs : List S43} (h : ArmsBlk W0 w g xs) {a : S43} (hk : xs[k]? = some a) : w.cell? ⟨g, k * 5 + 1, none⟩ = some (.bool a.f1) := by
  obtain ⟨cs, h1, h2, h3⟩ := h
  have hl := (List.getElem?_eq_some_iff.1 hk).1
  obtain ⟨A4, c4, e, _, _⟩ := k43_open (h3 k a hk)
  rw [blk_cell h1, List.getElem?_toArray, List.getElem?_append_left (by omega), ← seg_get (s := 5) (by omega), e]
  rfl
theorem arm_frozen {W0 w : World} {g : Nat} {xs : List S43} (h : ArmsBlk W0 w g xs) (k : Nat) : w.frozen? ⟨g, k, none⟩ = false := by
  obtain ⟨cs, h1, _⟩ := h
  exact blk_frozen h1 k
theorem arm_kt {W0 w : World} {g : Nat} {xs : List S43} (h : ArmsBlk W0 w g xs) {t : TypeId} (ht : t ≠ 43) (j : Nat) (u : Value) : KT t w (w.setCell ⟨g, j, none⟩ u) := by
  obtain ⟨cs, h1, _⟩ := h
  exact KT.set h1 ht j u
theorem seg_set {cs : List Value} {j k i : Nat} {u : Value} (hi : i < 5) : seg (cs.set (k * 5 + i) u) 5 j = if j = k then (seg cs 5 k).set i u else seg cs 5 j := by
  apply List.ext_getElem?
  intro t
  by_cases ht : t < 5
  · rw [seg_get ht, List.getElem?_set]
    by_cases hjk : j = k
    · subst hjk
      rw [if_pos rfl, List.getElem?_set, seg_get ht]
      have hlen : (seg cs 5 j).length = min 5 (cs.length - j * 5) := by unfold seg; rw [List.length_take, List.length_drop]
      by_cases hit : i = t
      · subst hit
        rw [if_pos rfl, if_pos rfl, hlen]
        by_cases hb : j * 5 + i < cs.length
        · rw [if_pos hb, if_pos (by omega)]
        · rw [if_neg hb, if_neg (by omega)]
      · rw [if_neg (by omega), if_neg hit]
    · rw [if_neg hjk, seg_get ht, if_neg (by omega)]
  · have h1 : (seg (cs.set (k * 5 + i) u) 5 j).length ≤ 5 := by unfold seg; rw [List.length_take]; omega
    have h2 : (if j = k then (seg cs 5 k).set i u else seg cs 5 j).length ≤ 5 := by
      split
      · rw [List.length_set]; unfold seg; rw [List.length_take]; omega
      · unfold seg; rw [List.length_take]; omega
    rw [List.getElem?_eq_none (by omega), List.getElem?_eq_none (by omega)]
theorem ArmsBlk.flip {W0 w : World} {g k : Nat} {xs : List S43} (h : ArmsBlk W0 w g (flK xs k)) {b : S43} (hk : xs[k]? = some b) : ArmsBlk W0 (w.setCell ⟨g, k * 5 + 1, none⟩ (.bool (!b.f1))) g (flK xs (k + 1)) := by
  obtain ⟨cs, h1, h2, h3⟩ := h
  have hl := (List.getElem?_eq_some_iff.1 hk).1
  rw [flK_len] at h2
  refine ⟨cs.set (k * 5 + 1) (.bool (!b.f1)), ?_, by rw [List.length_set, flK_len, h2], fun t a ht => ?_⟩
  · rw [blk_set h1, List.setIfInBounds_toArray, List.set_append_left _ _ (by omega)]
  · obtain ⟨b', hb', rfl⟩ := flK_at xs (k + 1) t a ht
    rw [seg_set (by omega)]
    by_cases htk : t = k
    · subst htk
      rw [hk] at hb'
      injection hb' with hb'
      subst hb'
      rw [if_pos rfl, if_pos (by omega)]
      have hold := h3 t b (by have := flK_of xs t t b hk; rwa [if_neg (by omega)] at this)
      obtain ⟨A4, c4, e, l4, g4⟩ := k43_open hold
      rw [e]
      exact k43_mk W0 (flipS b) l4 g4
    · rw [if_neg htk]
      have := flK_of xs k t b' hb'
      have hold := h3 t _ this
      by_cases h4 : t < k
      · rw [if_pos h4] at hold
        rw [if_pos (by omega)]
        exact hold
      · rw [if_neg h4] at hold
        rw [if_neg (by omega)]
        exact hold
theorem nod_at {gs : List Nat} (h : gs.Nodup) {i j g : Nat} (hi : gs[i]? = some g) (hj : gs[j]? = some g) : i = j := by
  obtain ⟨h1, h2⟩ := List.getElem?_eq_some_iff.1 hi
  obtain ⟨h3, h4⟩ := List.getElem?_eq_some_iff.1 hj
  rcases Nat.lt_trichotomy i j with h5 | h5 | h5
  · exact absurd (h2.trans h4.symm) (List.pairwise_iff_getElem.1 h i j h1 h3 h5)
  · exact h5
  · exact absurd (h4.trans h2.symm) (List.pairwise_iff_getElem.1 h j i h3 h1 h5)
theorem Lent.flip {W0 w : World} {base ga i k g : Nat} {l : List S38} {gs : List Nat} {rest : List Value} {vr : Value} (h : Lent W0 w base l (FF l i k) gs ga rest vr) (hg : gs[i]? = some g) {x : S38} (hx : l[i]? = some x) {b : S43} (hk : x.f1[k]? = some b) :
    Lent W0 (w.setCell ⟨g, k * 5 + 1, none⟩ (.bool (!b.f1))) base l (FF l i (k + 1)) gs ga rest vr := by
  have hA := h.arms i g hg
  have e : FF l i k i = flK x.f1 k := by
    unfold FF
    rw [if_neg (by omega), if_pos rfl, FL_at hx]
  rw [e] at hA
  refine ⟨h.len, h.low, h.lows, h.nod, arm_kt hA (by decide) _ _ _ _ h.blk, R_kt rfl h.rows (arm_kt hA (by decide) _ _), fun j g' hg' => ?_, fun j y hy => ?_⟩
  · by_cases hj : j = i
    · subst hj
      rw [hg] at hg'
      injection hg' with hg'
      subst hg'
      have e2 : FF l j (k + 1) j = flK x.f1 (k + 1) := by
        unfold FF
        rw [if_neg (by omega), if_pos rfl, FL_at hx]
      rw [e2]
      exact hA.flip hk
    · have hne : g' ≠ g := by
        intro e
        subst e
        exact hj (nod_at h.nod hg' hg)
      have e3 : FF l i (k + 1) j = FF l i k j := by
        unfold FF
        rw [if_neg hj, if_neg hj]
      rw [e3]
      obtain ⟨cs, c1, c2, c3⟩ := h.arms j g' hg'
      exact ⟨cs, (Below.heap_setCell w ⟨g, k * 5 + 1, none⟩ _ g' hne).trans c1, c2, c3⟩
  · have := h.flen j y hy
    rw [FF_len] at this ⊢
    exact this
theorem Lent.slot {W0 w : World} {base ga i g n c : Nat} {A : Option Addr} {l : List S38} {F : Nat → List S43} {gs : List Nat} {rest : List Value} (h : Lent W0 w base l F gs ga rest (.slice A n c)) (hg : gs[i]? = some g) {x : S38} (hx : l[i]? = some x) :
    ∃ go, A = some ⟨go, 0, none⟩ ∧ w.cell? ⟨go, i, none⟩ = some (.slice (some ⟨g, 0, none⟩) (x.f1.length + 1) (x.f1.length + 1)) := by
  have hi := (List.getElem?_eq_some_iff.1 hx).1
  have hn := (Kd.R_reads' h.rows).1
  have hr := rowsM_at l gs i x g h.len hx hg
  have hlen := rowsM_len l gs h.len
  obtain ⟨go, c', e, _, _⟩ := Kd.R_form h.rows (by rw [hlen]; omega)
  injection e with e1 e2 e3
  subst e1
  refine ⟨go, rfl, ?_⟩
  obtain ⟨c', hcl, hM, hcc, _⟩ := Kd.R_elem h.rows [] (i : Int) (by omega) (by omega)
  rw [Int.toNat_natCast] at hM hcc
  have e : (rowsM l gs).getD i [] = rowM x g := by rw [List.getD_eq_getElem?_getD, hr]; rfl
  rw [e] at hM
  obtain ⟨rfl, _⟩ := hM
  have := hcc 0 _ rfl
  have e2 : (Kd.raw 1).sz = 1 := rfl
  rwa [e2, Nat.mul_one] at this
end Go.Proofs.Ytokbonceeglciaa.Bk
end
section
namespace Go.Proofs.Ytokbonceeglciaa.Given
open Go.RowKit Go.Proofs.YtokbonceeglciaaW.PrintWords Go.Proofs.YtokbonceeglciaaW.PrintLast Go.Proofs.YtokbonceeglciaaW.PrintMore Go.Proofs.Ytokbonceeglciaa.Print Go.Proofs.Ytokbonceeglciaa.Bk
set_option linter.unusedVariables false
set_option linter.unusedSimpArgs false
theorem rd38a (l : List S38) {n : Nat} (h : n < l.length) : rd_T38 (l ++ [tailW]) (n : Int) = l[n] := by
  unfold rd_T38
  rw [Int.toNat_natCast, List.getD_eq_getElem?_getD, List.getElem?_append_left h, List.getElem?_eq_getElem h]
  rfl
theorem rd38e (l : List S38) : rd_T38 (l ++ [tailW]) (l.length : Int) = tailW := by
  unfold rd_T38
  rw [Int.toNat_natCast, List.getD_eq_getElem?_getD, List.getElem?_append_right (Nat.le_refl _), Nat.sub_self]
  rfl
theorem rd43a (l : List S43) {n : Nat} (h : n < l.length) : rd_T43 (l ++ [tailS]) (n : Int) = l[n] := by
  unfold rd_T43
  rw [Int.toNat_natCast, List.getD_eq_getElem?_getD, List.getElem?_append_left h, List.getElem?_eq_getElem h]
  rfl
theorem rd43e (l : List S43) : rd_T43 (l ++ [tailS]) (l.length : Int) = tailS := by
  unfold rd_T43
  rw [Int.toNat_natCast, List.getD_eq_getElem?_getD, List.getElem?_append_right (Nat.le_refl _), Nat.sub_self]
  rfl
theorem rdM (l : List S38) {n : Nat} (h : n < l.length) : rd_L4 (marked l (FL l)) (n : Int) = l[n].f1 ++ [tailS] := by
  unfold rd_L4 marked
  rw [Int.toNat_natCast, List.getD_eq_getElem?_getD, List.getElem?_mapIdx, List.getElem?_eq_getElem h, Option.map_some, FL_at (List.getElem?_eq_getElem h)]
  rfl
section
variable (l : List S38) (hm : l.length ≤ 4611686018427387904) (ha : ∀ x ∈ l, x.f1.length ≤ 4611686018427387904)
include ha in
theorem still_l1 (i : Nat) (hi : i < l.length) (v : Bool) (h : Ev (fun k => squintlaw13_still.l0 k (l ++ [tailW]) (marked l (FL l)) l (wrap64 ((i : Int) + 1))) v) : ∀ (d t : Nat), t + d = l[i].f1.length → Ev (fun k => squintlaw13_still.l1 k (l ++ [tailW]) (marked l (FL l)) l (i : Int) (l[i].f1.length : Int) (t : Int)) v
  | 0, t, hd => by
    refine h.step fun k => ?_
    show squintlaw13_still.l1 (k + 1) _ _ l (i : Int) (l[i].f1.length : Int) (t : Int) = _
    rw [squintlaw13_still.l1, if_neg (by omega)]
  | d + 1, t, hd => by
    have ht : t < l[i].f1.length := by omega
    have hil := ha l[i] (List.getElem_mem hi)
    refine (still_l1 i hi v h d (t + 1) (by omega)).step fun k => ?_
    show squintlaw13_still.l1 (k + 1) _ _ l (i : Int) (l[i].f1.length : Int) (t : Int) = _
    have e1 : ((marked l (FL l)).length : Int) = (l.length : Int) := by rw [marked_len]
    have e2 : ((l ++ [tailW]).length : Int) = (l.length : Int) + 1 := by simp
    have e3 : ((l[i].f1 ++ [tailS]).length : Int) = (l[i].f1.length : Int) + 1 := by simp
    conv => lhs; rw [squintlaw13_still.l1]
    rw [rdM l hi, rd38a l hi, rd38 hi, rd43a _ ht, rd43 ht, e1, e2, e3]
    rw [if_pos (by omega), if_pos (by omega), if_pos (by omega), if_pos (by omega), if_pos (by omega), if_pos (by omega), if_pos (by omega), if_pos rfl, if_neg (by simp), if_pos (by omega), if_pos (by omega), if_pos rfl, wrap_succ t (by omega)]
include hm ha in
theorem still_l0 : ∀ (d i : Nat), i + d = l.length → Ev (fun k => squintlaw13_still.l0 k (l ++ [tailW]) (marked l (FL l)) l (i : Int)) true
  | 0, i, hd => Ev.done fun k => by
    obtain rfl : i = l.length := by omega
    show squintlaw13_still.l0 (k + 1) _ _ l (l.length : Int) = _
    have e2 : ((l ++ [tailW]).length : Int) = (l.length : Int) + 1 := by simp
    rw [squintlaw13_still.l0, if_neg (by omega), rd38e, e2, if_pos (by omega), if_pos (by omega)]
    rfl
  | d + 1, i, hd => by
    have hi : i < l.length := by omega
    have ih := still_l0 d (i + 1) (by omega)
    have h1 := still_l1 l ha i hi true (by rw [wrap_succ i (by omega)]; exact ih) l[i].f1.length 0 (by omega)
    have h2 : Ev (fun k => squintlaw13_still.j1 k (l ++ [tailW]) (marked l (FL l)) l (i : Int) (l[i].f1.length : Int) false) true := h1.step fun k => by
      show squintlaw13_still.j1 (k + 1) _ _ l (i : Int) (l[i].f1.length : Int) false = _
      rw [squintlaw13_still.j1, if_neg (by simp)]
      rfl
    refine h2.step fun k => ?_
    show squintlaw13_still.l0 (k + 1) _ _ l (i : Int) = _
    have e1 : ((marked l (FL l)).length : Int) = (l.length : Int) := by rw [marked_len]
    have e2 : ((l ++ [tailW]).length : Int) = (l.length : Int) + 1 := by simp
    have e3 : ((l[i].f1 ++ [tailS]).length : Int) = (l[i].f1.length : Int) + 1 := by simp
    rw [squintlaw13_still.l0, rdM l hi, rd38a l hi, rd38 hi, rd43e, e1, e2, e3]
    rw [if_pos (by omega), if_pos (by omega), if_pos (by omega), if_pos rfl, if_pos rfl, if_pos (by omega), if_pos (by omega), if_pos (by omega)]
    rfl
end
theorem still_says (l : List S38) (hm : l.length ≤ 4611686018427387904) (ha : ∀ x ∈ l, x.f1.length ≤ 4611686018427387904) : ∃ k, squintlaw13_still.f k (l ++ [tailW]) (marked l (FL l)) l = some true :=
  (still_l0 l hm ha l.length 0 (by omega)).get
end Go.Proofs.Ytokbonceeglciaa.Given
end
section
namespace Go.Proofs.Ytokbonceeglciaa.Bk
open Go.RowKit Go.Proofs.YtokbonceeglciaaW.PrintWords Go.Proofs.YtokbonceeglciaaW.PrintLast Go.Proofs.YtokbonceeglciaaW.PrintMore Go.Proofs.Ytokbonceeglciaa.Print Go.Proofs.Ytokbonceeglciaa.Given
set_option linter.unusedVariables false
set_option linter.unusedSimpArgs false
theorem infoS : (Try.prog.info? 33).map (fun i => (i.zero, i.size, i.bytes)) = some (some (.slice none 0 0), 1, 24) := by kernel_rfl
theorem infoE : (Try.prog.info? 47).map (fun i => (i.zero, i.size, i.bytes)) = some (some (.agg #[(.int .i64 0), (.int .i64 0), (.int .i64 0), (.int .i64 0), (.int .i64 0)]), 5, 40) := by kernel_rfl
def KX (w w1 : World) : Prop := ∀ t, t ≠ 33 → t ≠ 28 → KT t w w1
abbrev BkAt (w : World) (g base : Nat) (vo vw : Value) (fr : Int) (ol wl : List Value) : Prop := Book w g base 28 33 vo vw fr ol wl
set_option maxRecDepth 100000 in
set_option maxHeartbeats 2000000 in
theorem keep_any (gh base : Nat) (Aa Ab : Option Addr) (ca cb : Nat) (xs : List S47) (vo vw : Value) (fr : Int) (ol wl : List Value) (w : World) (hb : BkAt w gh base vo vw fr ol wl) (hra : Kd.R k47 47 w base Any (.slice Aa xs.length ca) xs) (hrb : Kd.R k47 47 w base Any (.slice Ab xs.length cb) xs)
    (hk : ∃ k, squintlaw13_same.f k xs xs = some true) (hlen : xs.length ≤ 100000000000) (hol : ol.length ≤ 1000000 ∧ wl.length ≤ 1000000) (hbase : base ≤ w.heap.size) :
    Calls Try.prog 9 #[.pointer (some ⟨gh, 0, none⟩), .slice Aa xs.length ca, .slice Ab xs.length cb] w fun e w' => e = .returned (.bool true) ∧ ∃ vo' vw' v2, BkAt w' gh base vo' vw' fr (ol ++ [.slice Aa xs.length ca]) (wl ++ [v2]) ∧ Kd.R k47 47 w' w.heap.size Any v2 xs ∧ Below base w w' ∧ KX w w' := by
  obtain ⟨ks, hks⟩ := hk
  have HBK0 := Aside0.mk hb
  have HRA := Aside0.mk hra
  have HRB := Aside0.mk hrb
  have HKS := Aside0.mk hks
  have HNL := Aside0.mk hol
  have HBS := Aside0.mk hbase
  have HTA : Aside0 ((([] : List S47).length + xs.length) * 40 ≤ 140737488355328) := ⟨by rw [List.length_nil]; omega⟩
  clear hb hra hrb hks hol hbase
  go_enter Try.func9, Try.ntmps9
  go_upto_region 3 with (first
    | ((with_reducible refine gate_dst (N := 8) rfl ?_); refine Kd.R_lit k47 (w0 := w) w.heap.size 47 ?hg (N := 8) ?hd (xs := ([] : List S47)) (inner := []) (ok := Any) (okp := Any) ?hr ?hp (fun _ hk => hk) trivial ?hb ?hs (by simp) ?_; (case hd => rfl); (case hg => rfl); (case hr => first | (go_simp; done) | (go_simp; rfl)); (case hp => exact (Reps.none _ _)); (case hb => exact Below.refl _ _); (case hs => exact Nat.le_refl _); intro v7 w7 ho hb _ _; have HM0 := Aside0.mk ho; have HB0 := Aside0.mk hb; clear ho hb)
    | ((with_reducible refine gate_builtin (b := .append) (xs := #[.tmp 9, .tmp 10]) rfl ?_); at_builtin; refine Kd.R_append_rows k47 (w0 := w) w.heap.size rfl (.tmp 9) (.tmp 10) 33 47 (.agg #[(.int .i64 0), (.int .i64 0), (.int .i64 0), (.int .i64 0), (.int .i64 0)]) 40 rfl Try.underlying33 infoE rfl (by decide) (by omega) v7 [] xs _ _ _ Any (fun _ => False) rfl rfl ?aO ?aR (fun _ _ h => h) (fun _ h => h.elim) (fun _ _ => trivial) ?aB ?aS ?aL ?_; (case aR => exact (Kd.R_reads' (Kd.R_below HRB.out HB0.out)).2.2); (case aB => exact HB0.out); (case aO => exact HM0.out); (case aS => exact HB0.out.size); (case aL => exact HTA.out); intro v8 w8 ho hb _ _; obtain ⟨Am, nm, cm, rfl⟩ : ∃ A_ n_ c_, v8 = .slice A_ n_ c_ := (by obtain ⟨A_, c_, e_⟩ := Kd.R_slice ho; exact ⟨A_, _, c_, e_⟩); have HB := Aside0.mk hb; have HM : Aside0 (Kd.R k47 47 w8 w.heap.size Any (.slice Am nm cm) xs) := ⟨ho⟩; clear HB0 HM0 ho hb))
  have HSZ : Aside0 (base ≤ w8.heap.size) := ⟨Nat.le_trans HBS.out HB.out.size⟩
  have HBK : Aside0 (BkAt w8 gh base vo vw fr ol wl) := ⟨HBK0.out.kt (KT.below HB.out) (KT.below HB.out)⟩
  have HBA : Aside0 (Below base w w8) := ⟨HB.out.mono HBS.out⟩
  have HKA : Aside0 (KX w w8) := ⟨fun t _ _ => KT.below HB.out⟩
  clear HBK0 HB
  have z0 : w8.cell? ⟨gh, 0, none⟩ = some vo := (blk_cell HBK.out.blk 0).trans rfl
  go_upto_region 4 with ((with_reducible refine gate_builtin (b := .append) (xs := #[.tmp 16, .tmp 18]) rfl ?_); at_builtin; refine Kd.R_append (Kd.raw 1) (w0 := w8) base rfl (.tmp 16) (.tmp 18) 26 33 (.slice none 0 0) 24 rfl Try.underlying26 infoS rfl (by decide) (by omega) _ (ol.map (fun v => [v])) [.slice Aa xs.length ca] [.slice Aa xs.length ca] Any (fun _ => False) rfl rfl ?aP (fun _ hk => hk.elim) (fun _ _ => trivial) ?aO (Below.refl _ _) ?aS ?aL ?_; (case aP => exact raw_one _ rfl _ _ _); (case aO => exact HBK.out.ro); (case aS => exact HSZ.out); (case aL => rw [List.length_map]; have := HNL.out; omega); intro u1_ w11 ho hb hg hat; obtain ⟨Au, nu, cu, rfl⟩ : ∃ A_ n_ c_, u1_ = .slice A_ n_ c_ := (by obtain ⟨A_, c_, e_⟩ := Kd.R_slice ho; exact ⟨A_, _, c_, e_⟩); obtain ⟨c1_, f1_, hbk_, hkx_⟩ := Book.pushO HBK.out (by decide) ho hg hat; have HBK2 := Aside0.mk hbk_; have HKX2 := Aside0.mk hkx_; have HBB := Aside0.mk hb; have HRW_ := Aside0.mk hg; have HAT := Aside0.mk hat; clear HBK ho hb hg hat hbk_ hkx_)
  have n0_ : Aside0 (Below base w (w11.setCell ⟨gh, 0, none⟩ (.slice Au nu cu))) := ⟨below_setG (HBA.out.trans HBB.out) HBK2.out.low _ _⟩
  have n1_ : Aside0 (KX w (w11.setCell ⟨gh, 0, none⟩ (.slice Au nu cu))) := ⟨fun t h1 h2 => (HKA.out t h1 h2).trans (HKX2.out t h1 h2)⟩
  have n2_ : Aside0 (Kd.R k47 47 (w11.setCell ⟨gh, 0, none⟩ (.slice Au nu cu)) w.heap.size Any (.slice Am nm cm) xs) := ⟨R_kt rfl HM.out (HKX2.out 47 (by decide) (by decide))⟩
  generalize w11.setCell ⟨gh, 0, none⟩ (.slice Au nu cu) = w9 at n0_ n1_ n2_ HBK2 HKX2 ⊢
  clear HBA HKA HM HSZ HBB HRW_ HAT HKX2 c1_ f1_ z0
  have HBK := HBK2
  have HBA := n0_
  have HKA := n1_
  have HM := n2_
  have HSZ : Aside0 (base ≤ w9.heap.size) := ⟨Nat.le_trans HBS.out HBA.out.size⟩
  clear HBK2 n0_ n1_ n2_
  have z1 : w9.cell? ⟨gh, 1, none⟩ = some vw := (blk_cell HBK.out.blk 1).trans rfl
  go_upto_region 5 with ((with_reducible refine gate_builtin (b := .append) (xs := #[.tmp 26, .tmp 28]) rfl ?_); at_builtin; refine Kd.R_append (Kd.raw 1) (w0 := w9) base rfl (.tmp 26) (.tmp 28) 26 33 (.slice none 0 0) 24 rfl Try.underlying26 infoS rfl (by decide) (by omega) _ (wl.map (fun v => [v])) [.slice Am nm cm] [.slice Am nm cm] Any (fun _ => False) rfl rfl ?aP (fun _ hk => hk.elim) (fun _ _ => trivial) ?aO (Below.refl _ _) ?aS ?aL ?_; (case aP => exact raw_one _ rfl _ _ _); (case aO => exact HBK.out.rw); (case aS => exact HSZ.out); (case aL => rw [List.length_map]; have := HNL.out; omega); intro u1_ w12 ho hb hg hat; obtain ⟨Aw, nw, cw, rfl⟩ : ∃ A_ n_ c_, u1_ = .slice A_ n_ c_ := (by obtain ⟨A_, c_, e_⟩ := Kd.R_slice ho; exact ⟨A_, _, c_, e_⟩); obtain ⟨c1_, f1_, hbk_, hkx_⟩ := Book.pushW HBK.out (by decide) ho hg hat; have HBK2 := Aside0.mk hbk_; have HKX2 := Aside0.mk hkx_; have HBB := Aside0.mk hb; have HRW_ := Aside0.mk hg; have HAT := Aside0.mk hat; clear HBK ho hb hg hat hbk_ hkx_)
  have n0_ : Aside0 (Below base w (w12.setCell ⟨gh, 1, none⟩ (.slice Aw nw cw))) := ⟨below_setG (HBA.out.trans HBB.out) HBK2.out.low _ _⟩
  have n1_ : Aside0 (KX w (w12.setCell ⟨gh, 1, none⟩ (.slice Aw nw cw))) := ⟨fun t h1 h2 => (HKA.out t h1 h2).trans (HKX2.out t h1 h2)⟩
  have n2_ : Aside0 (Kd.R k47 47 (w12.setCell ⟨gh, 1, none⟩ (.slice Aw nw cw)) w.heap.size Any (.slice Am nm cm) xs) := ⟨R_kt rfl HM.out (HKX2.out 47 (by decide) (by decide))⟩
  generalize w12.setCell ⟨gh, 1, none⟩ (.slice Aw nw cw) = w10 at n0_ n1_ n2_ HBK2 HKX2 ⊢
  clear HBA HKA HM HSZ HBB HRW_ HAT HKX2 c1_ f1_ z1
  have HRA2 := Aside0.mk (Kd.R_reads' (R_kt rfl HRA.out (n1_.out 47 (by decide) (by decide))))
  have HRB2 := Aside0.mk (Kd.R_reads' (R_kt rfl HRB.out (n1_.out 47 (by decide) (by decide))))
  go_wp2_with (go_at_call 20; refine (squintlaw13_same.calls ks Aa ca xs Ab cb xs true _ HRA2.out.2.2 HRA2.out.2.1 HRB2.out.2.2 HRB2.out.2.1 HKS.out).mono ?_; rintro e w13 ⟨rfl, hd⟩; have HD := Aside0.mk hd.below; clear hd)
  go_returns
  exact ⟨rfl, _, _, _, HBK2.out.kt (KT.below HD.out) (KT.below HD.out), Kd.R_below n2_.out HD.out, n0_.out.trans (HD.out.mono (Nat.le_trans HBS.out n0_.out.size)), fun t h1 h2 => (n1_.out t h1 h2).trans (KT.below HD.out)⟩
end Go.Proofs.Ytokbonceeglciaa.Bk
end
section
namespace Go.Proofs.Ytokbonceeglciaa.Bk
open Go.RowKit Go.Proofs.YtokbonceeglciaaW.PrintWords Go.Proofs.YtokbonceeglciaaW.PrintLast Go.Proofs.YtokbonceeglciaaW.PrintMore Go.Proofs.Ytokbonceeglciaa.Print Go.Proofs.Ytokbonceeglciaa.Given
set_option linter.unusedVariables false
set_option linter.unusedSimpArgs false
set_option maxRecDepth 100000 in
set_option maxHeartbeats 2000000 in
theorem holds_any (gh base : Nat) (vo vw : Value) (fr : Int) (ol wl : List Value) (cs : List (List S47)) (w : World) (hb : BkAt w gh base vo vw fr ol wl) (ho : Lists k47 w base 47 ol cs) (hw : Lists k47 w base 47 wl cs)
    (hk : ∀ xs ∈ cs, ∃ k, squintlaw13_same.f k xs xs = some true) (hlen : ol.length ≤ 1000000) :
    Calls Try.prog 29 #[.pointer (some ⟨gh, 0, none⟩)] w fun e w' => e = .returned (.bool true) ∧ Below w.heap.size w w' := by
  obtain ⟨Ao, co, rfl⟩ := raw_form hb.ro
  obtain ⟨Aw, cw, rfl⟩ := raw_form hb.rw
  have hlo := ho.len
  have hlw := hw.len
  have HBK := Aside0.mk hb
  have HO := Aside0.mk ho
  have HW := Aside0.mk hw
  have HK := Aside0.mk hk
  have HB := Aside0.mk (Below.refl w.heap.size w)
  have HLO := Aside0.mk hlo
  have HLW := Aside0.mk hlw
  clear hb ho hw hk hlo hlw
  go_enter Try.func29, Try.ntmps29
  go_wp2_with (fail)
  go_loopw [3] (fun v3 wr => ∃ j : Nat, v3 = .int .i64 j ∧ j ≤ ol.length ∧ Aside0 (Below w.heap.size w wr)) (fun v3 _ => ol.length - (intOf v3).toNat)
  case atStart => exact ⟨0, rfl, by omega, HB⟩
  case round =>
    clear HB
    obtain ⟨j, rfl, hj, HB⟩ := hrel
    obtain ⟨wo, rfl⟩ : ∃ wo : World, wo = wr := ⟨_, rfl⟩
    have HBK2 : Aside0 (BkAt wo gh base (.slice Ao ol.length co) (.slice Aw wl.length cw) fr ol wl) := ⟨HBK.out.kt (KT.below HB.out) (KT.below HB.out)⟩
    have x0 : wo.cell? ⟨gh, 0, none⟩ = some (.slice Ao ol.length co) := (blk_cell HBK2.out.blk 0).trans rfl
    by_cases hlt : j < ol.length
    · have x1 : wo.cell? ⟨gh, 1, none⟩ = some (.slice Aw wl.length cw) := (blk_cell HBK2.out.blk 1).trans rfl
      obtain ⟨v, xs, hv, hxs, hR⟩ := (HO.out.below HB.out).get (j := j) (by have := HLO.out; omega)
      obtain ⟨u, xs', hu, hxs', hR2⟩ := (HW.out.below HB.out).get (j := j) (by have := HLO.out; omega)
      rw [hxs] at hxs'
      injection hxs' with hxs'
      subst hxs'
      obtain ⟨kk, hkk⟩ := HK.out xs (List.mem_of_getElem? hxs)
      obtain ⟨A1, c1, rfl⟩ := Kd.R_slice hR
      obtain ⟨A2, c2, rfl⟩ := Kd.R_slice hR2
      obtain ⟨go, co2, e, _⟩ := raw_head HBK2.out.ro (by omega)
      injection e with e1 e2 e3
      subst e1
      obtain ⟨gw, cw2, e, _⟩ := raw_head HBK2.out.rw (by have := HLO.out; have := HLW.out; omega)
      injection e with e1 e4 e5
      subst e1
      have y0 := raw_at HBK2.out.ro hv
      have y1 := raw_at HBK2.out.rw hu
      have hjw : j < wl.length := by have := HLO.out; have := HLW.out; omega
      have HC1 := Aside0.mk (Kd.R_reads' hR)
      have HC2 := Aside0.mk (Kd.R_reads' hR2)
      have HKK := Aside0.mk hkk
      clear hR hR2 hkk hxs hv hu e2 e3 e4 e5
      go_wp2_with (fail)
      go_quiet ((go_at_call 20; exact Calls.quiet_of ((squintlaw13_same.calls kk _ _ xs _ _ xs true _ (Kd.C_drewN HC1.out.2.2 _) HC1.out.2.1 (Kd.C_drewN HC2.out.2.2 _) HC2.out.2.1 HKK.out).mono fun _ _ h => ⟨h.1, h.2.out⟩)))
      go_wp2_with (fail)
      go_roundw
      case rel => exact ⟨j + 1, by go_num, by omega, ⟨pw_below_drewN HB.out _⟩⟩
      case measure => simp [intOf]; omega
    · obtain rfl : j = ol.length := by omega
      go_wp2_with (fail)
      go_returns
      exact ⟨rfl, HB.out⟩
end Go.Proofs.Ytokbonceeglciaa.Bk
end
section
namespace Go.Proofs.Ytokbonceeglciaa.Bk
open Go.RowKit Go.Proofs.YtokbonceeglciaaW.PrintWords Go.Proofs.YtokbonceeglciaaW.PrintLast Go.Proofs.YtokbonceeglciaaW.PrintMore Go.Proofs.Ytokbonceeglciaa.Print Go.Proofs.Ytokbonceeglciaa.Given
set_option linter.unusedVariables false
set_option linter.unusedSimpArgs false
def okS (gh : Nat) (vo vw : Value) (all : List Value) (k : Nat) : Prop := k = gh ∨ vo.ownBlock = some k ∨ vw.ownBlock = some k ∨ ∃ (j : Nat) (v : Value), all[j]? = some v ∧ v.ownBlock = some k
def markY (i : Nat) : S47 := ⟨0, 0, 0, 0, -1 - (i : Int)⟩
def markZ (i : Nat) : S47 := ⟨0, 0, 0, 0, -1000 - (i : Int)⟩
theorem book_other {w w1 : World} {gh base : Nat} {vo vw : Value} {fr : Int} {ol wl : List Value} {v : Value} {xs : List S47} (h : BkAt w gh base vo vw fr ol wl) (hR : Kd.R k47 47 w base Any v xs) (hg : w.grownBy w1 v.ownBlock) : BkAt w1 gh base vo vw fr ol wl :=
  h.kt (KT.grown hg (Kd.R_typed hR) (by decide)) (KT.grown hg (Kd.R_typed hR) (by decide))
theorem seg_all (c s : List Value) (hs : s.length = 5) (hc : c.length = 5) : c.take 0 ++ s ++ c.drop (0 + s.length) = s := by
  rw [List.take_zero, List.nil_append, List.drop_eq_nil_of_le (by omega), List.append_nil]
set_option maxRecDepth 100000 in
set_option maxHeartbeats 4000000 in
theorem spoil_any (gh base : Nat) (vo vw : Value) (ol wl : List Value) (cs : List (List S47)) (w : World) (hb : BkAt w gh base vo vw 0 ol wl) (ho : Lists k47 w base 47 ol cs) (hw : Lists k47 w base 47 wl cs) (hp : Parted (ol ++ wl))
    (hk : ∀ xs : List S47, xs.length ≤ 1000000000 → ∃ k, squintlaw13_same.f k xs xs = some true) (hlen : ol.length ≤ 1000) (hx : ∀ xs ∈ cs, xs.length ≤ 100000000) (hbase : base ≤ w.heap.size) :
    Calls Try.prog 17 #[.pointer (some ⟨gh, 0, none⟩)] w fun e w' => e = .returned (.bool true) ∧ Kept (okS gh vo vw (ol ++ wl)) w w' := by
  obtain ⟨Ao, co, rfl⟩ := raw_form hb.ro
  obtain ⟨Aw, cw, rfl⟩ := raw_form hb.rw
  have hlo := ho.len
  have hlw := hw.len
  have HBK := Aside0.mk hb
  have HLL : Aside0 (Lists k47 w base 47 (ol ++ wl) (markC markY 0 0 cs ++ markC markY 0 0 cs)) := ⟨by rw [markC_zero]; exact ho.append hw⟩
  have HK := Aside0.mk hk
  have HX := Aside0.mk hx
  have HP := Aside0.mk hp
  have HBS := Aside0.mk hbase
  have HKE := Aside0.mk (Kept.refl (okS gh (.slice Ao ol.length co) (.slice Aw wl.length cw) (ol ++ wl)) w)
  have HLO := Aside0.mk hlo
  have HLW := Aside0.mk hlw
  have P0 := Aside0.mk True.intro
  have HOLD := Aside0.mk (holds_any gh base _ _ 0 ol wl cs w hb ho hw (fun xs h => hk xs (by have := hx xs h; omega)) (by omega))
  have z2 : w.cell? ⟨gh, 2, none⟩ = some (.int .i64 0) := (blk_cell hb.blk 2).trans rfl
  have hbk0 := hb.blk
  clear hb ho hw hk hx hp hbase hlo hlw
  have HB0 := Aside0.mk hbk0
  clear hbk0
  go_enter Try.func17, Try.ntmps17
  go_upto_region 5 with (go_at_call 29; clear P0; refine HOLD.out.mono ?_; rintro e w1 ⟨rfl, hb⟩; have n0_ : Aside0 (BkAt w1 gh base (.slice Ao ol.length co) (.slice Aw wl.length cw) 0 ol wl) := ⟨HBK.out.kt (KT.below hb) (KT.below hb)⟩; have n1_ := Aside0.mk (HLL.out.below hb); have n2_ := Aside0.mk (HKE.out.below hb); have n3_ : Aside0 (base ≤ w1.heap.size) := ⟨Nat.le_trans HBS.out hb.size⟩; have z2b : w1.cell? ⟨gh, 2, none⟩ = some (.int .i64 0) := (blk_cell n0_.out.blk 2).trans rfl; have z0b : w1.cell? ⟨gh, 0, none⟩ = some (.slice Ao ol.length co) := (blk_cell n0_.out.blk 0).trans rfl; clear hb)
  have HBK := n0_
  have HLL := n1_
  have HKE := n2_
  clear n0_ n1_ n2_ HOLD HB0 z2b z0b n3_ z2
  go_loopw [6] (fun v6 wr => ∃ i : Nat, v6 = .int .i64 i ∧ i ≤ ol.length ∧ Aside0 (BkAt wr gh base (.slice Ao ol.length co) (.slice Aw wl.length cw) 0 ol wl) ∧ Aside0 (Lists k47 wr base 47 (ol ++ wl) (markC markY i 0 cs ++ markC markY i 0 cs)) ∧ Aside0 (Kept (okS gh (.slice Ao ol.length co) (.slice Aw wl.length cw) (ol ++ wl)) w wr)) (fun v6 _ => ol.length - (intOf v6).toNat)
  case atStart => exact ⟨0, rfl, by omega, HBK, HLL, HKE⟩
  case round =>
    clear HBK HLL HKE
    obtain ⟨i, rfl, hi, HBK, HLL, HKE⟩ := hrel
    obtain ⟨wo, rfl⟩ : ∃ wo : World, wo = wr := ⟨_, rfl⟩
    by_cases hlt : i < ol.length
    · obtain ⟨xs, hxs⟩ : ∃ xs, cs[i]? = some xs := ⟨_, List.getElem?_eq_getElem (by have := HLO.out; omega)⟩
      obtain ⟨v1, hv1⟩ : ∃ v, ol[i]? = some v := ⟨_, List.getElem?_eq_getElem hlt⟩
      obtain ⟨v2, hv2⟩ : ∃ v, wl[i]? = some v := ⟨_, List.getElem?_eq_getElem (by have := HLO.out; have := HLW.out; omega)⟩
      have hR1 := (HLL.out.left (by rw [markC_len]; exact HLO.out)).row i v1 _ hv1 (markC_at markY cs i 0 hxs)
      have hR2 := (HLL.out.right (by rw [markC_len]; exact HLO.out)).row i v2 _ hv2 (markC_at markY cs i 0 hxs)
      obtain ⟨A1, c1, rfl⟩ := Kd.R_slice hR1
      obtain ⟨A2, c2, rfl⟩ := Kd.R_slice hR2
      rw [mkK_len] at hv1 hv2
      obtain ⟨go, co2, e, _⟩ := raw_head HBK.out.ro (by omega)
      injection e with e1 e2 e3
      subst e1
      obtain ⟨gw, cw2, e, _⟩ := raw_head HBK.out.rw (by have := HLO.out; have := HLW.out; omega)
      injection e with e1 e4 e5
      subst e1
      have hxl := HX.out xs (List.mem_of_getElem? hxs)
      have HXS := Aside0.mk hxs
      have HV1 := Aside0.mk hv1
      have HV2 := Aside0.mk hv2
      have hjw : i < wl.length := by have := HLO.out; have := HLW.out; omega
      clear hR1 hR2 hxs hv1 hv2 e2 e3 e4 e5
      go_wp2_with (fail)
      go_loopw [7] (fun v7 wr => ∃ k : Nat, v7 = .int .i64 k ∧ k ≤ xs.length ∧ Aside0 (BkAt wr gh base (.slice (some ⟨go, 0, none⟩) ol.length co) (.slice (some ⟨gw, 0, none⟩) wl.length cw) 0 ol wl) ∧ Aside0 (Lists k47 wr base 47 (ol ++ wl) (markC markY i k cs ++ markC markY i k cs)) ∧ Aside0 (Kept (okS gh (.slice (some ⟨go, 0, none⟩) ol.length co) (.slice (some ⟨gw, 0, none⟩) wl.length cw) (ol ++ wl)) w wr)) (fun v7 _ => xs.length - (intOf v7).toNat)
      case atStart => exact ⟨0, rfl, by omega, HBK, HLL, HKE⟩
      case round =>
        clear HBK HLL HKE
        obtain ⟨k, rfl, hk, HBK, HLL, HKE⟩ := hrel
        obtain ⟨wi, rfl⟩ : ∃ wi : World, wi = wr := ⟨_, rfl⟩
        have x0 : wi.cell? ⟨gh, 0, none⟩ = some (.slice (some ⟨go, 0, none⟩) ol.length co) := (blk_cell HBK.out.blk 0).trans rfl
        have y0 := raw_at HBK.out.ro HV1.out
        have hR1 := (HLL.out.left (by rw [markC_len]; exact HLO.out)).row i _ _ HV1.out (markC_at markY cs i k HXS.out)
        by_cases hkn : k < xs.length
        · obtain ⟨b1, cb1, e, _⟩ := Kd.R_form hR1 (by rw [mkK_len]; omega)
          injection e with e1 e2 e3
          subst e1
          obtain ⟨c, hcl, _, hcc, _⟩ := Kd.R_elem hR1 (markY i) (k : Int) (by omega) (by omega)
          have HR1 := Aside0.mk hR1
          have HCL := Aside0.mk hcl
          have HCC := Aside0.mk hcc
          have OK1 : Aside0 (okS gh (.slice (some ⟨go, 0, none⟩) ol.length co) (.slice (some ⟨gw, 0, none⟩) wl.length cw) (ol ++ wl) b1) := ⟨Or.inr (Or.inr (Or.inr ⟨i, _, by rw [List.getElem?_append_left hlt]; exact HV1.out, rfl⟩))⟩
          clear hR1 hcl hcc e2 e3
          go_upto_region 11 with (refine Kd.R_store k47 (w0 := wi) base rfl rfl 47 (.tmp 52) (.tmp 51) rfl 47 (g := b1) (n := xs.length) (cap := c1) (o' := k * 5) (k : Int) 0 _ (markY i) (.agg #[.int .i64 0, .int .i64 0, .int .i64 0, .int .i64 0, .int .i64 (-1 - (i : Int))]) [.int .i64 0, .int .i64 0, .int .i64 0, .int .i64 0, .int .i64 (-1 - (i : Int))] c Any (fun _ => False) rfl (by rw [Int.toNat_natCast]; rfl) rfl rfl (by kernel_rfl) ?q0 HR1.out (by omega) (by omega) HCL.out HCC.out (by show 0 + 5 ≤ 5; omega) ?q1 (fun _ hk => hk.elim) (Below.refl _ _) ?_; (case q0 => intro u hu; simp only [List.mem_cons, List.not_mem_nil, or_false] at hu; rcases hu with rfl | rfl | rfl | rfl | rfl <;> rfl); (case q1 => rw [seg_all c _ rfl HCL.out]; exact k47_mkM _ _ _ (markY i)); intro w5 ho hb hg; have HO5 := Aside0.mk ho; have HG5 := Aside0.mk hg; clear ho hb hg)
          rw [Int.toNat_natCast] at HO5
          have n0_ := Aside0.mk (book_other HBK.out HR1.out HG5.out)
          have n1_ := Aside0.mk (markO rfl HP.out HLO.out HLL.out HV1.out HXS.out HG5.out HO5.out)
          have n2_ := Aside0.mk (HKE.out.grown HG5.out (fun q hq => Or.inl (by injection hq with hq; subst hq; exact OK1.out)))
          clear HBK HLL HKE HR1 HCL HCC OK1 HO5 HG5 x0 y0
          have HBK := n0_
          have HLL := n1_
          have HKE := n2_
          clear n0_ n1_ n2_
          have x1 : w5.cell? ⟨gh, 1, none⟩ = some (.slice (some ⟨gw, 0, none⟩) wl.length cw) := (blk_cell HBK.out.blk 1).trans rfl
          have y1 := raw_at HBK.out.rw HV2.out
          have hR2 := (HLL.out.right (by rw [markC_len]; exact HLO.out)).row i _ _ HV2.out (markC_at markY cs i k HXS.out)
          obtain ⟨b2, cb2, e, _⟩ := Kd.R_form hR2 (by rw [mkK_len]; omega)
          injection e with e1 e2 e3
          subst e1
          obtain ⟨d, hcl, _, hcc, _⟩ := Kd.R_elem hR2 (markY i) (k : Int) (by omega) (by omega)
          have HR2 := Aside0.mk hR2
          have HCL := Aside0.mk hcl
          have HCC := Aside0.mk hcc
          have OK2 : Aside0 (okS gh (.slice (some ⟨go, 0, none⟩) ol.length co) (.slice (some ⟨gw, 0, none⟩) wl.length cw) (ol ++ wl) b2) := ⟨Or.inr (Or.inr (Or.inr ⟨ol.length + i, _, by rw [List.getElem?_append_right (by omega), Nat.add_sub_cancel_left]; exact HV2.out, rfl⟩))⟩
          clear hR2 hcl hcc e2 e3
          go_wp2_with (refine Kd.R_store k47 (w0 := w5) base rfl rfl 47 (.tmp 64) (.tmp 63) rfl 47 (g := b2) (n := xs.length) (cap := c2) (o' := k * 5) (k : Int) 0 _ (markY i) (.agg #[.int .i64 0, .int .i64 0, .int .i64 0, .int .i64 0, .int .i64 (-1 - (i : Int))]) [.int .i64 0, .int .i64 0, .int .i64 0, .int .i64 0, .int .i64 (-1 - (i : Int))] d Any (fun _ => False) rfl (by rw [Int.toNat_natCast]; rfl) rfl rfl (by kernel_rfl) ?q0 HR2.out (by omega) (by omega) HCL.out HCC.out (by show 0 + 5 ≤ 5; omega) ?q1 (fun _ hk => hk.elim) (Below.refl _ _) ?_; (case q0 => intro u hu; simp only [List.mem_cons, List.not_mem_nil, or_false] at hu; rcases hu with rfl | rfl | rfl | rfl | rfl <;> rfl); (case q1 => rw [seg_all d _ rfl HCL.out]; exact k47_mkM _ _ _ (markY i)); intro w6 ho hb hg; have HO6 := Aside0.mk ho; have HG6 := Aside0.mk hg; clear ho hb hg)
          rw [Int.toNat_natCast] at HO6
          have n0_ := Aside0.mk (book_other HBK.out HR2.out HG6.out)
          have n1_ := Aside0.mk (markW rfl HP.out HLO.out HLL.out HV2.out HXS.out HG6.out HO6.out)
          have n2_ := Aside0.mk (HKE.out.grown HG6.out (fun q hq => Or.inl (by injection hq with hq; subst hq; exact OK2.out)))
          clear HBK HLL HKE
          go_roundw
          case rel => exact ⟨k + 1, by go_num, by omega, n0_, n1_, n2_⟩
          case measure => simp [intOf]; omega
        · obtain rfl : k = xs.length := by omega
          rw [markC_next markY cs i HXS.out] at HLL
          clear hR1
          go_wp2_with (fail)
          go_roundw
          case rel => exact ⟨i + 1, by go_num, by omega, HBK, HLL, HKE⟩
          case measure => simp [intOf]; omega
    · obtain rfl : i = ol.length := by omega
      obtain ⟨F, hF⟩ : ∃ F, F = markC markY ol.length 0 cs := ⟨_, rfl⟩
      rw [← hF] at HLL
      have hFl : F.length = cs.length := by rw [hF, markC_len]
      have HFX : Aside0 (∀ xs ∈ F, xs.length ≤ 100000000) := ⟨by rw [hF]; exact markC_bound markY cs _ _ _ HX.out⟩
      have HLF : Aside0 (ol.length = F.length) := ⟨by rw [hFl]; exact HLO.out⟩
      have HOLD2 := Aside0.mk (holds_any gh base _ _ 0 ol wl F wo HBK.out (HLL.out.left HLF.out) (HLL.out.right HLF.out) (fun xs h => HK.out xs (by have := HFX.out xs h; omega)) (by omega))
      have P1 := Aside0.mk True.intro
      clear hF hFl
      go_upto_region 14 with (go_at_call 29; clear P1; refine HOLD2.out.mono ?_; rintro e wb ⟨rfl, hb⟩; have n0_ : Aside0 (BkAt wb gh base (.slice Ao ol.length co) (.slice Aw wl.length cw) 0 (ol ++ []) (wl ++ [])) := ⟨by rw [List.append_nil, List.append_nil]; exact HBK.out.kt (KT.below hb) (KT.below hb)⟩; have n1_ := Aside0.mk (HLL.out.below hb); have n2_ := Aside0.mk (HKE.out.below hb); clear hb)
      clear HOLD2 HBK HLL HKE
      have HD : Aside0 (Doubles k47 wb base 47 wb.heap.size ol wl F [] [] []) := ⟨⟨n1_.out.left HLF.out, n1_.out.right HLF.out, Lists.nil, Lists.nil, fun j u h => by simp at h, fun j u h => by simp at h, fun j v hv k hk => (n1_.out.lt j v hv k hk).1⟩⟩
      have HSZ : Aside0 (w.heap.size ≤ wb.heap.size) := ⟨n2_.out.size⟩
      have HN : Aside0 (wb.heap.size ≤ wb.heap.size) := ⟨Nat.le_refl _⟩
      obtain ⟨N0, hN0⟩ : ∃ N0, N0 = wb.heap.size := ⟨_, rfl⟩
      have HD2 : Aside0 (Doubles k47 wb base 47 N0 ol wl F [] [] []) := ⟨by rw [hN0]; exact HD.out⟩
      have HN2 : Aside0 (N0 ≤ wb.heap.size) := ⟨by rw [hN0]; exact Nat.le_refl _⟩
      have HSZ2 : Aside0 (w.heap.size ≤ N0) := ⟨by rw [hN0]; exact HSZ.out⟩
      clear HD HN HSZ hN0 n1_
      go_loopw [8] (fun v8 wr => ∃ (i : Nat) (vo' vw' : Value) (ol2 wl2 : List Value) (G : List (List S47)), v8 = .int .i64 i ∧ i ≤ ol.length ∧ ol2.length = i ∧ Aside0 (BkAt wr gh base vo' vw' 0 (ol ++ ol2) (wl ++ wl2)) ∧ Aside0 (Doubles k47 wr base 47 N0 ol wl F ol2 wl2 G) ∧ Aside0 (∀ g ∈ G, g.length ≤ 100000020) ∧ Aside0 (N0 ≤ wr.heap.size) ∧ Aside0 (∀ k, vo'.ownBlock = some k → okS gh (.slice Ao ol.length co) (.slice Aw wl.length cw) (ol ++ wl) k ∨ w.heap.size ≤ k) ∧ Aside0 (∀ k, vw'.ownBlock = some k → okS gh (.slice Ao ol.length co) (.slice Aw wl.length cw) (ol ++ wl) k ∨ w.heap.size ≤ k) ∧ Aside0 (Kept (okS gh (.slice Ao ol.length co) (.slice Aw wl.length cw) (ol ++ wl)) w wr)) (fun v8 _ => ol.length - (intOf v8).toNat)
      case atStart => exact ⟨0, _, _, [], [], [], rfl, by omega, rfl, n0_, HD2, ⟨fun g h => by cases h⟩, HN2, ⟨fun k hk => Or.inl (Or.inr (Or.inl hk))⟩, ⟨fun k hk => Or.inl (Or.inr (Or.inr (Or.inl hk)))⟩, n2_⟩
      case round =>
        clear n0_ HD2 HN2 n2_
        obtain ⟨i, vo', vw', ol2, wl2, G, rfl, hi, hol2, HBK, HD, HG, HN, HVO, HVW, HKE⟩ := hrel
        obtain ⟨wi, rfl⟩ : ∃ wi : World, wi = wr := ⟨_, rfl⟩
        by_cases hlt : i < ol.length
        · subst hol2
          have hjw : ol2.length < wl.length := by have := HLO.out; have := HLW.out; omega
          obtain ⟨xs, hxs⟩ : ∃ xs, F[ol2.length]? = some xs := ⟨_, List.getElem?_eq_getElem (by have := HLF.out; omega)⟩
          obtain ⟨v1, hv1⟩ : ∃ v, ol[ol2.length]? = some v := ⟨_, List.getElem?_eq_getElem hlt⟩
          obtain ⟨v2, hv2⟩ : ∃ v, wl[ol2.length]? = some v := ⟨_, List.getElem?_eq_getElem hjw⟩
          have hR1 := HD.out.a.row _ v1 xs hv1 hxs
          have hR2 := HD.out.b.row _ v2 xs hv2 hxs
          obtain ⟨A1, c1, rfl⟩ := Kd.R_slice hR1
          obtain ⟨A2, c2, rfl⟩ := Kd.R_slice hR2
          have hxl := HFX.out xs (List.mem_of_getElem? hxs)
          have hwl2 : wl2.length = ol2.length := HD.out.e.len.trans HD.out.c.len.symm
          have hw1 : (ol ++ ol2)[ol2.length]? = some (.slice A1 xs.length c1) := by rw [List.getElem?_append_left hlt]; exact hv1
          have hw2 : (wl ++ wl2)[ol2.length]? = some (.slice A2 xs.length c2) := by rw [List.getElem?_append_left hjw]; exact hv2
          have hnl : (ol ++ ol2).length ≤ 1000000 ∧ (wl ++ wl2).length ≤ 1000000 := by rw [List.length_append, List.length_append]; have := HLO.out; have := HLW.out; omega
          have hpo : ol2.length < (ol ++ ol2).length := by rw [List.length_append]; omega
          have hpw : ol2.length < (wl ++ wl2).length := by rw [List.length_append]; omega
          obtain ⟨oo, hoo⟩ : ∃ oo, oo = ol ++ ol2 := ⟨_, rfl⟩
          obtain ⟨ww, hww⟩ : ∃ ww, ww = wl ++ wl2 := ⟨_, rfl⟩
          rw [← hoo] at hw1 hnl hpo HBK
          rw [← hww] at hw2 hnl hpw HBK
          obtain ⟨go, co2, rfl, _⟩ := raw_head HBK.out.ro (by omega)
          obtain ⟨gw, cw2, rfl, _⟩ := raw_head HBK.out.rw (by omega)
          have x0 : wi.cell? ⟨gh, 0, none⟩ = some (.slice (some ⟨go, 0, none⟩) oo.length co2) := (blk_cell HBK.out.blk 0).trans rfl
          have y0 := raw_at HBK.out.ro hw1
          have HNL := Aside0.mk hnl
          have HR1 := Aside0.mk hR1
          have HR2 := Aside0.mk hR2
          have HXS := Aside0.mk hxs
          have HV1 := Aside0.mk hv1
          have HV2 := Aside0.mk hv2
          have HW2 := Aside0.mk hw2
          have HOO := Aside0.mk hoo
          have HWW := Aside0.mk hww
          have HWL2 := Aside0.mk hwl2
          have HBI : Aside0 (base ≤ wi.heap.size) := ⟨Nat.le_trans HBS.out HKE.out.size⟩
          have HTA : Aside0 ((([] : List S47).length + xs.length) * 40 ≤ 140737488355328) := ⟨by rw [List.length_nil]; omega⟩
          clear hR1 hR2 hxs hv1 hv2 hw1 hw2 hnl hoo hww hwl2
          go_upto_region 19 with (first
            | ((with_reducible refine gate_dst (N := 83) rfl ?_); refine Kd.R_lit k47 (w0 := wi) base 47 ?hg (N := 83) ?hd (xs := ([] : List S47)) (inner := []) (ok := Any) (okp := Any) ?hr ?hp (fun _ hk => hk) trivial ?hb ?hs (by simp) ?_; (case hd => rfl); (case hg => rfl); (case hr => first | (go_simp; done) | (go_simp; rfl)); (case hp => exact (Reps.none _ _)); (case hb => exact Below.refl _ _); (case hs => exact HBI.out); intro v7 w7 ho _ hg hat; have HM0 := Aside0.mk ho; have HG7 := Aside0.mk hg; have HA7 := Aside0.mk hat; have HBK7 : Aside0 (BkAt w7 gh base (.slice (some ⟨go, 0, none⟩) oo.length co2) (.slice (some ⟨gw, 0, none⟩) ww.length cw2) 0 oo ww) := ⟨HBK.out.kt (KT.of_none hg) (KT.of_none hg)⟩; have x1 : w7.cell? ⟨gh, 1, none⟩ = some (.slice (some ⟨gw, 0, none⟩) ww.length cw2) := (blk_cell HBK7.out.blk 1).trans rfl; have y1 := raw_at HBK7.out.rw HW2.out; clear ho hg hat HBK7)
            | ((with_reducible refine gate_builtin (b := .append) (xs := #[.tmp 84, .tmp 91]) rfl ?_); at_builtin; refine Kd.R_append_rows k47 (w0 := w7) base rfl (.tmp 84) (.tmp 91) 33 47 (.agg #[(.int .i64 0), (.int .i64 0), (.int .i64 0), (.int .i64 0), (.int .i64 0)]) 40 rfl Try.underlying33 infoE rfl (by decide) (by omega) v7 [] xs _ _ _ Any (fun _ => False) rfl rfl ?aO ?aR (fun _ _ h => h) (fun _ h => h.elim) (fun _ _ => trivial) ?aB ?aS ?aL ?_; (case aR => exact (Kd.R_reads' (R_kt rfl HR2.out (KT.of_none HG7.out))).2.2); (case aB => exact Below.refl _ _); (case aO => exact HM0.out); (case aS => exact Nat.le_trans HBI.out HG7.out.size); (case aL => exact HTA.out); intro v8 w8 ho _ hg hat; have HM : Aside0 (Kd.R k47 47 w8 base Any v8 xs) := ⟨ho⟩; have HG8 := Aside0.mk hg; have HA8 := Aside0.mk hat; clear ho hg hat))
          have HPR : Aside0 (Pair2 k47 wi w8 base 47 (.slice A1 xs.length c1) xs.length (.slice A1 xs.length c1) v8 xs xs) := by
            have e7 : Ext wi w7 47 (Kd.sz k47) (.slice A1 xs.length c1) xs.length := ext_other (Ext.refl _ _ _ _ _) HG7.out (fun k hk => by cases hk)
            have l7 : ∀ k, v7.ownBlock = some k → wi.heap.size ≤ k := fun k hk => by
              obtain ⟨b, hb, hle⟩ := HA7.out
              rw [hb] at hk
              injection hk with hk
              omega
            have e8 := ext_other e7 HG8.out l7
            have l8 : ∀ k, v8.ownBlock = some k → wi.heap.size ≤ k := fun k hk => by
              rcases HA8.out with he | ⟨b, hb, hle⟩
              · exact l7 k (he ▸ hk)
              · rw [hb] at hk
                injection hk with hk
                have := HG7.out.size
                omega
            exact ⟨e8, R_stay HR1.out e8, HM.out, Side.refl, l8, fun k hk hm => by have := Kd.R_lt HR1.out k hk; have := l8 k hm; omega⟩
          clear HM HG7 HG8 HA7 HA8 HM0 x0 y0 x1 y1
          go_wp2_with (fail)
          go_loopw [9, 10, 11] (fun v9 v10 v11 wr => ∃ (q : Nat) (gl : List S47), v11 = .int .i64 q ∧ q ≤ 20 ∧ gl.length = xs.length + q ∧ Aside0 (Pair2 k47 wi wr base 47 (.slice A1 xs.length c1) xs.length v9 v10 gl gl)) (fun _ _ v11 _ => 20 - (intOf v11).toNat)
          case atStart => exact ⟨0, xs, rfl, by omega, rfl, HPR⟩
          case round =>
            clear HPR
            obtain ⟨q, gl, rfl, hq, hgl, HPR⟩ := hrel
            obtain ⟨wj, rfl⟩ : ∃ wj : World, wj = wr := ⟨_, rfl⟩
            have HGL := Aside0.mk hgl
            clear hgl
            by_cases hq20 : q < 20
            · have HBJ : Aside0 (base ≤ wj.heap.size) := ⟨Nat.le_trans HBI.out HPR.out.ext.grown.size⟩
              have HTL : Aside0 ((gl.length + 1) * 40 ≤ 140737488355328) := ⟨by have := HGL.out; omega⟩
              go_wp2_with (first
                | ((with_reducible refine gate_builtin (b := .append) (xs := #[.tmp 97, .tmp 101]) rfl ?_); at_builtin; refine R_append_beside k47 (W := wj) base rfl (.tmp 97) (.tmp 101) 33 47 (.agg #[(.int .i64 0), (.int .i64 0), (.int .i64 0), (.int .i64 0), (.int .i64 0)]) 40 rfl Try.underlying33 infoE rfl (by decide) (by decide) _ gl (markZ ol2.length) [.int .i64 0, .int .i64 0, .int .i64 0, .int .i64 0, .int .i64 (-1000 - (ol2.length : Int))] rfl rfl ?aZ1 HPR.out.l HBJ.out HTL.out ?_; (case aZ1 => exact k47_mkM _ _ _ (markZ ol2.length)); intro l1 w1 hr hg hst; have HP1 := Aside0.mk (HPR.out.stepL rfl hr hg hst); have HBJ1 : Aside0 (base ≤ w1.heap.size) := ⟨Nat.le_trans HBJ.out hg.size⟩; clear hr hg hst)
                | ((with_reducible refine gate_builtin (b := .append) (xs := #[.tmp 103, .tmp 107]) rfl ?_); at_builtin; refine R_append_beside k47 (W := w1) base rfl (.tmp 103) (.tmp 107) 33 47 (.agg #[(.int .i64 0), (.int .i64 0), (.int .i64 0), (.int .i64 0), (.int .i64 0)]) 40 rfl Try.underlying33 infoE rfl (by decide) (by decide) _ gl (markZ ol2.length) [.int .i64 0, .int .i64 0, .int .i64 0, .int .i64 0, .int .i64 (-1000 - (ol2.length : Int))] rfl rfl ?aZ2 HP1.out.m HBJ1.out HTL.out ?_; (case aZ2 => exact k47_mkM _ _ _ (markZ ol2.length)); intro m1 w2 hr hg hst; have HP2 := Aside0.mk (HP1.out.stepM rfl hr hg (stays_at hst)); clear hr hg hst))
              go_roundw
              case rel => exact ⟨q + 1, _, by go_num, by omega, by rw [List.length_append, HGL.out]; rfl, HP2⟩
              case measure => simp [intOf]; omega
            · obtain rfl : q = 20 := by omega
              obtain ⟨A9, c9, rfl⟩ := Kd.R_slice HPR.out.l
              obtain ⟨A10, c10, rfl⟩ := Kd.R_slice HPR.out.m
              have HDJ := Aside0.mk (HD.out.step rfl HP.out HV1.out HXS.out HPR.out.ext HPR.out.l HPR.out.m HPR.out.sideL HPR.out.sm HN.out)
              have HBKJ := Aside0.mk (book_other HBK.out HR1.out HPR.out.ext.grown)
              have HKJ := Aside0.mk (HKE.out.grown HPR.out.ext.grown (fun k hk => Or.inl (Or.inr (Or.inr (Or.inr ⟨ol2.length, _, by rw [List.getElem?_append_left hlt]; exact HV1.out, hk⟩)))))
              have HSZ : Aside0 (base ≤ wj.heap.size) := ⟨Nat.le_trans HBS.out HKJ.out.size⟩
              have HNJ : Aside0 (N0 ≤ wj.heap.size) := ⟨Nat.le_trans HN.out HPR.out.ext.grown.size⟩
              clear HBK HKE HD HPR HN
              have HBK := HBKJ
              clear HBKJ
              have z0 : wj.cell? ⟨gh, 0, none⟩ = some (.slice (some ⟨go, 0, none⟩) oo.length co2) := (blk_cell HBK.out.blk 0).trans rfl
              go_upto_region 25 with ((with_reducible refine gate_builtin (b := .append) (xs := #[.tmp 113, .tmp 115]) rfl ?_); at_builtin; refine Kd.R_append (Kd.raw 1) (w0 := wj) base rfl (.tmp 113) (.tmp 115) 26 33 (.slice none 0 0) 24 rfl Try.underlying26 infoS rfl (by decide) (by omega) _ (oo.map (fun v => [v])) [.slice A9 gl.length c9] [.slice A9 gl.length c9] Any (fun _ => False) rfl rfl ?aP (fun _ hk => hk.elim) (fun _ _ => trivial) ?aO (Below.refl _ _) ?aS ?aL ?_; (case aP => exact raw_one _ rfl _ _ _); (case aO => exact HBK.out.ro); (case aS => exact HSZ.out); (case aL => rw [List.length_map]; have := HNL.out; omega); intro u1_ w11 ho hb hg hat; obtain ⟨Au, nu, cu, rfl⟩ : ∃ A_ n_ c_, u1_ = .slice A_ n_ c_ := (by obtain ⟨A_, c_, e_⟩ := Kd.R_slice ho; exact ⟨A_, _, c_, e_⟩); obtain ⟨c1_, f1_, hbk_, hkx_⟩ := Book.pushO HBK.out (by decide) ho hg hat; have HBK2 := Aside0.mk hbk_; have HKX2 := Aside0.mk hkx_; have HBB := Aside0.mk hb; have HRW_ := Aside0.mk hg; have HAT := Aside0.mk hat; clear HBK ho hb hg hat hbk_ hkx_)
              have n0_ := Aside0.mk (HDJ.out.kt rfl (HKX2.out 47 (by decide) (by decide)))
              have n1_ := Aside0.mk ((HKJ.out.grown HRW_.out HVO.out).set gh 0 (.slice Au nu cu) (Or.inl rfl))
              have n2_ : Aside0 (∀ k, (Value.slice Au nu cu).ownBlock = some k → okS gh (.slice Ao ol.length co) (.slice Aw wl.length cw) (ol ++ wl) k ∨ w.heap.size ≤ k) := ⟨fun k hk => by
                rcases HAT.out with he | ⟨b, hb, hle⟩
                · exact HVO.out k (he ▸ hk)
                · rw [hb] at hk
                  injection hk with hk
                  have := HKJ.out.size
                  omega⟩
              have n3_ : Aside0 (wj.heap.size ≤ (w11.setCell ⟨gh, 0, none⟩ (.slice Au nu cu)).heap.size) := ⟨by simpa [World.setCell] using HBB.out.size⟩
              clear HKX2 HAT HBB HRW_ c1_ f1_ z0 HVO HKJ HDJ
              generalize w11.setCell ⟨gh, 0, none⟩ (.slice Au nu cu) = w9 at n0_ n1_ n2_ n3_ HBK2 ⊢
              have HBK := HBK2
              have HSZ2 : Aside0 (base ≤ w9.heap.size) := ⟨Nat.le_trans HSZ.out n3_.out⟩
              have HNJ2 : Aside0 (N0 ≤ w9.heap.size) := ⟨Nat.le_trans HNJ.out n3_.out⟩
              clear HSZ HBK2 HNJ n3_
              have HSZ := HSZ2
              clear HSZ2
              have z1 : w9.cell? ⟨gh, 1, none⟩ = some (.slice (some ⟨gw, 0, none⟩) ww.length cw2) := (blk_cell HBK.out.blk 1).trans rfl
              go_wp2_with ((with_reducible refine gate_builtin (b := .append) (xs := #[.tmp 123, .tmp 125]) rfl ?_); at_builtin; refine Kd.R_append (Kd.raw 1) (w0 := w9) base rfl (.tmp 123) (.tmp 125) 26 33 (.slice none 0 0) 24 rfl Try.underlying26 infoS rfl (by decide) (by omega) _ (ww.map (fun v => [v])) [.slice A10 gl.length c10] [.slice A10 gl.length c10] Any (fun _ => False) rfl rfl ?aP (fun _ hk => hk.elim) (fun _ _ => trivial) ?aO (Below.refl _ _) ?aS ?aL ?_; (case aP => exact raw_one _ rfl _ _ _); (case aO => exact HBK.out.rw); (case aS => exact HSZ.out); (case aL => rw [List.length_map]; have := HNL.out; omega); intro u1_ w12 ho hb hg hat; obtain ⟨Aq, nq, cq, rfl⟩ : ∃ A_ n_ c_, u1_ = .slice A_ n_ c_ := (by obtain ⟨A_, c_, e_⟩ := Kd.R_slice ho; exact ⟨A_, _, c_, e_⟩); obtain ⟨c1_, f1_, hbk_, hkx_⟩ := Book.pushW HBK.out (by decide) ho hg hat; have HBK2 := Aside0.mk hbk_; have HKX2 := Aside0.mk hkx_; have HBB := Aside0.mk hb; have HRW_ := Aside0.mk hg; have HAT := Aside0.mk hat; clear HBK ho hb hg hat hbk_ hkx_)
              have m0_ := Aside0.mk (n0_.out.kt rfl (HKX2.out 47 (by decide) (by decide)))
              have m1_ := Aside0.mk ((n1_.out.grown HRW_.out HVW.out).set gh 1 (.slice Aq nq cq) (Or.inl rfl))
              have m2_ : Aside0 (∀ k, (Value.slice Aq nq cq).ownBlock = some k → okS gh (.slice Ao ol.length co) (.slice Aw wl.length cw) (ol ++ wl) k ∨ w.heap.size ≤ k) := ⟨fun k hk => by
                rcases HAT.out with he | ⟨b, hb, hle⟩
                · exact HVW.out k (he ▸ hk)
                · rw [hb] at hk
                  injection hk with hk
                  have := n1_.out.size
                  omega⟩
              have m3_ : Aside0 (N0 ≤ (w12.setCell ⟨gh, 1, none⟩ (.slice Aq nq cq)).heap.size) := ⟨Nat.le_trans HNJ2.out (by simpa [World.setCell] using HBB.out.size)⟩
              have m4_ := HBK2.out
              rw [HOO.out, HWW.out, List.append_assoc, List.append_assoc] at m4_
              go_roundw
              case rel => exact ⟨ol2.length + 1, _, _, _, _, _, by go_num, by omega, by simp, ⟨m4_⟩, m0_, ⟨fun g h => (List.mem_append.1 h).elim (HG.out g) (fun h => by rw [List.mem_singleton] at h; subst h; have := HGL.out; omega)⟩, m3_, n2_, m2_, m1_⟩
              case measure => simp [intOf]; omega
        · obtain rfl : i = ol.length := by omega
          have HLA := Aside0.mk (HD.out.a.append HD.out.c)
          have HLB := Aside0.mk (HD.out.b.append HD.out.e)
          have hol3 : (ol ++ ol2).length ≤ 1000000 := by rw [List.length_append]; omega
          obtain ⟨oo, hoo⟩ : ∃ oo, oo = ol ++ ol2 := ⟨_, rfl⟩
          obtain ⟨ww, hww⟩ : ∃ ww, ww = wl ++ wl2 := ⟨_, rfl⟩
          rw [← hoo, ← hww] at HBK
          rw [← hoo] at HLA hol3
          rw [← hww] at HLB
          obtain ⟨A3, c3, rfl⟩ := raw_form HBK.out.ro
          have HGX : Aside0 (∀ xs ∈ F ++ G, xs.length ≤ 1000000000) := ⟨fun xs h => (List.mem_append.1 h).elim (fun h => by have := HFX.out xs h; omega) (fun h => by have := HG.out xs h; omega)⟩
          have HSF : Aside0 (∀ n : Int, BkAt (wi.setCell ⟨gh, 2, none⟩ (.int .i64 n)) gh base (.slice A3 oo.length c3) vw' n oo ww) := ⟨fun n => HBK.out.setF (by decide) n⟩
          have HSA : Aside0 (∀ n : Int, Lists k47 (wi.setCell ⟨gh, 2, none⟩ (.int .i64 n)) base 47 oo (F ++ G)) := ⟨fun n => HLA.out.kt rfl (KT.set HBK.out.blk (by decide) 2 _)⟩
          have HSB : Aside0 (∀ n : Int, Lists k47 (wi.setCell ⟨gh, 2, none⟩ (.int .i64 n)) base 47 ww (F ++ G)) := ⟨fun n => HLB.out.kt rfl (KT.set HBK.out.blk (by decide) 2 _)⟩
          have HSK : Aside0 (∀ n : Int, Kept (okS gh (.slice Ao ol.length co) (.slice Aw wl.length cw) (ol ++ wl)) w (wi.setCell ⟨gh, 2, none⟩ (.int .i64 n))) := ⟨fun n => HKE.out.set gh 2 _ (Or.inl rfl)⟩
          have x0 : wi.cell? ⟨gh, 0, none⟩ = some (.slice A3 oo.length c3) := (blk_cell HBK.out.blk 0).trans rfl
          have x2 : wi.cell? ⟨gh, 2, none⟩ = some (.int .i64 0) := (blk_cell HBK.out.blk 2).trans rfl
          have f2 := blk_frozen HBK.out.blk 2
          have P2 := Aside0.mk True.intro
          clear hoo hww HLA HLB HBK HD HKE
          go_wp2_with (go_at_call 29; clear P2; refine (holds_any gh base _ _ _ oo ww (F ++ G) _ (HSF.out _) (HSA.out _) (HSB.out _) (fun xs h => HK.out xs (HGX.out xs h)) hol3).mono ?_; rintro e w8 ⟨rfl, hb⟩; have HB8 := Aside0.mk ((HSK.out _).below hb); clear hb)
          go_returns
          exact ⟨rfl, HB8.out⟩
end Go.Proofs.Ytokbonceeglciaa.Bk
end
section
namespace Go.Proofs.Ytokbonceeglciaa.Bk
open Go.RowKit Go.Proofs.YtokbonceeglciaaW.PrintWords Go.Proofs.YtokbonceeglciaaW.PrintLast Go.Proofs.YtokbonceeglciaaW.PrintMore Go.Proofs.Ytokbonceeglciaa.Print Go.Proofs.Ytokbonceeglciaa.Given
set_option linter.unusedVariables false
set_option linter.unusedSimpArgs false
def Fr (base : Nat) (w w1 : World) : Prop := Below base w w1 ∧ KX w w1
theorem Fr.refl (base : Nat) (w : World) : Fr base w w := ⟨Below.refl _ _, fun t _ _ => KT.refl t w⟩
theorem Fr.trans {base : Nat} {w w1 w2 : World} (h : Fr base w w1) (k : Fr base w1 w2) : Fr base w w2 := ⟨h.1.trans k.1, fun t h1 h2 => (h.2 t h1 h2).trans (k.2 t h1 h2)⟩
theorem Fr.below {base : Nat} {w w1 : World} (h : Below w.heap.size w w1) (hb : base ≤ w.heap.size) : Fr base w w1 := ⟨h.mono hb, fun t _ _ => KT.below h⟩
theorem Fr.then_ {base : Nat} {w w1 w2 : World} (h : Fr base w w1) (hb : base ≤ w.heap.size) (k : Below w1.heap.size w1 w2) : Fr base w w2 := h.trans (Fr.below k (Nat.le_trans hb h.1.size))
theorem Fr.blk {base g : Nat} {t : TypeId} {w w1 : World} {cs : Array Value} (h : Fr base w w1) (hb : w.heap[g]? = some (.cells cs t (0, 0))) (h1 : t ≠ 33) (h2 : t ≠ 28) : w1.heap[g]? = some (.cells cs t (0, 0)) := h.2 t h1 h2 g cs hb
theorem Fr.R {base b : Nat} {w w1 : World} {v : Value} {xs : List S47} (h : Fr base w w1) (hr : Kd.R k47 47 w b Any v xs) : Kd.R k47 47 w1 b Any v xs := R_kt rfl hr (h.2 47 (by decide) (by decide))
theorem Fr.C {α : Type} {d : Kd α} {w w1 : World} {A : Option Addr} {n : Nat} {xs : List α} (h : Fr w.heap.size w w1) (hr : Kd.C d w A n xs) : Kd.C d w1 A n xs := Kd.C_below hr h.1
structure BS (w : World) (gh base : Nat) (ol wl : List Value) (cs : List (List S47)) : Prop where
  bk : ∃ vo vw, BkAt w gh base vo vw 0 ol wl
  lo : Lists k47 w base 47 ol cs
  lw : Lists k47 w base 47 wl cs
  pt : Parted (ol ++ wl)
  bd : ∀ xs ∈ cs, xs.length ≤ 100000000
  sz : base ≤ w.heap.size
theorem BS.kt {w w1 : World} {gh base : Nat} {ol wl : List Value} {cs : List (List S47)} (h : BS w gh base ol wl cs) (h1 : KT 28 w w1) (h2 : KT 33 w w1) (h3 : KT 47 w w1) (hs : w.heap.size ≤ w1.heap.size) : BS w1 gh base ol wl cs := by
  obtain ⟨vo, vw, hb⟩ := h.bk
  exact ⟨⟨vo, vw, hb.kt h1 h2⟩, h.lo.kt rfl h3, h.lw.kt rfl h3, h.pt, h.bd, Nat.le_trans h.sz hs⟩
theorem BS.below {w w1 : World} {gh base : Nat} {ol wl : List Value} {cs : List (List S47)} (h : BS w gh base ol wl cs) (hb : Below w.heap.size w w1) : BS w1 gh base ol wl cs := h.kt (KT.below hb) (KT.below hb) (KT.below hb) hb.size
theorem own_span {base : Nat} {w : World} {v : Value} {xs : List S47} (h : Kd.R k47 47 w base Any v xs) (k : Nat) (hk : v.ownBlock = some k) : base ≤ k ∧ k < w.heap.size := ⟨by
  obtain ⟨_, inner, ho, _⟩ := h
  exact own_base ho k hk, Kd.R_lt h k hk⟩
theorem parted_snoc {ol wl : List Value} {u m : Value} {N M : Nat} (h : Parted (ol ++ wl)) (hol : ∀ (j : Nat) (v : Value), ol[j]? = some v → ∀ k, v.ownBlock = some k → k < N) (hwl : ∀ (j : Nat) (v : Value), wl[j]? = some v → ∀ k, v.ownBlock = some k → k < N)
    (hu : ∀ k, u.ownBlock = some k → N ≤ k ∧ k < M) (hm : ∀ k, m.ownBlock = some k → M ≤ k) (hNM : N ≤ M) : Parted ((ol ++ [u]) ++ (wl ++ [m])) := by
  have at_ : ∀ (p : Nat) (v : Value), ((ol ++ [u]) ++ (wl ++ [m]))[p]? = some v → (p < ol.length ∧ ol[p]? = some v) ∨ (p = ol.length ∧ v = u) ∨ (ol.length < p ∧ p < ol.length + 1 + wl.length ∧ wl[p - (ol.length + 1)]? = some v) ∨ (p = ol.length + 1 + wl.length ∧ v = m) := by
    intro p v hp
    by_cases h1 : p < (ol ++ [u]).length
    · rw [List.getElem?_append_left h1] at hp
      rcases snoc_at hp with hp | ⟨rfl, rfl⟩
      · exact .inl ⟨(List.getElem?_eq_some_iff.1 hp).1, hp⟩
      · exact .inr (.inl ⟨rfl, rfl⟩)
    · rw [List.getElem?_append_right (by omega)] at hp
      have hl : (ol ++ [u]).length = ol.length + 1 := by simp
      rw [hl] at hp h1
      rcases snoc_at hp with hp | ⟨h2, rfl⟩
      · have := (List.getElem?_eq_some_iff.1 hp).1
        exact .inr (.inr (.inl ⟨by omega, by omega, hp⟩))
      · exact .inr (.inr (.inr ⟨by omega, rfl⟩))
  have old : ∀ (p q : Nat) (v v' : Value), (ol ++ wl)[p]? = some v → (ol ++ wl)[q]? = some v' → p ≠ q → ∀ k, v.ownBlock = some k → v'.ownBlock ≠ some k := h
  intro p q v v' hp hq hne k hk hk'
  rcases at_ p v hp with ⟨p1, p2⟩ | ⟨p1, rfl⟩ | ⟨p0, p1, p2⟩ | ⟨p1, rfl⟩ <;> rcases at_ q v' hq with ⟨q1, q2⟩ | ⟨q1, rfl⟩ | ⟨q0, q1, q2⟩ | ⟨q1, rfl⟩
  · exact old p q v v' (by rw [List.getElem?_append_left p1]; exact p2) (by rw [List.getElem?_append_left q1]; exact q2) hne k hk hk'
  · have := hol p v p2 k hk; have := hu k hk'; omega
  · exact old p (ol.length + (q - (ol.length + 1))) v v' (by rw [List.getElem?_append_left p1]; exact p2) (by rw [List.getElem?_append_right (by omega), Nat.add_sub_cancel_left]; exact q2) (by omega) k hk hk'
  · have := hol p v p2 k hk; have := hm k hk'; omega
  · have := hol q v' q2 k hk'; have := hu k hk; omega
  · omega
  · have := hwl _ v' q2 k hk'; have := hu k hk; omega
  · have := hu k hk; have := hm k hk'; omega
  · exact old (ol.length + (p - (ol.length + 1))) q v v' (by rw [List.getElem?_append_right (by omega), Nat.add_sub_cancel_left]; exact p2) (by rw [List.getElem?_append_left q1]; exact q2) (by omega) k hk hk'
  · have := hwl _ v p2 k hk; have := hu k hk'; omega
  · exact old (ol.length + (p - (ol.length + 1))) (ol.length + (q - (ol.length + 1))) v v' (by rw [List.getElem?_append_right (by omega), Nat.add_sub_cancel_left]; exact p2) (by rw [List.getElem?_append_right (by omega), Nat.add_sub_cancel_left]; exact q2) (by omega) k hk hk'
  · have := hwl _ v p2 k hk; have := hm k hk'; omega
  · have := hol q v' q2 k hk'; have := hm k hk; omega
  · have := hm k hk; have := hu k hk'; omega
  · have := hwl _ v' q2 k hk'; have := hm k hk; omega
  · omega
theorem keep_bs (gh base : Nat) (Aa Ab : Option Addr) (ca cb : Nat) (xs : List S47) (ol wl : List Value) (cs : List (List S47)) (w0 w : World) (h : BS w0 gh base ol wl cs) (hb : Below w0.heap.size w0 w) (hra : Kd.R k47 47 w w0.heap.size Any (.slice Aa xs.length ca) xs) (hrb : Kd.R k47 47 w base Any (.slice Ab xs.length cb) xs)
    (hk : ∃ k, squintlaw13_same.f k xs xs = some true) (hlen : xs.length ≤ 100000000) (hol : ol.length ≤ 1000) :
    Calls Try.prog 9 #[.pointer (some ⟨gh, 0, none⟩), .slice Aa xs.length ca, .slice Ab xs.length cb] w fun e w' => e = .returned (.bool true) ∧ ∃ m, BS w' gh base (ol ++ [.slice Aa xs.length ca]) (wl ++ [m]) (cs ++ [xs]) ∧ Fr base w w' := by
  have h1 := h.below hb
  obtain ⟨vo, vw, hbk⟩ := h1.bk
  have hl1 := h.lo.len
  have hl2 := h.lw.len
  have hra2 := Kd.R_lower hra h.sz
  refine (keep_any gh base Aa Ab ca cb xs vo vw 0 ol wl w hbk hra2 hrb hk (by omega) ⟨by omega, by omega⟩ h1.sz).mono ?_
  rintro e w' ⟨rfl, vo', vw', m, hbk', hm, hbl, hkx⟩
  have hF : Fr base w w' := ⟨hbl, hkx⟩
  have kt := hkx 47 (by decide) (by decide)
  refine ⟨rfl, m, ⟨⟨vo', vw', hbk'⟩, (h1.lo.kt rfl kt).snoc (hF.R hra2), (h1.lw.kt rfl kt).snoc (Kd.R_lower hm h1.sz), ?_, fun ys hy => ?_, Nat.le_trans h1.sz hbl.size⟩, hF⟩
  · refine parted_snoc (N := w0.heap.size) (M := w.heap.size) h1.pt (fun j v hj k hk => (h.lo.lt j v hj k hk).1) (fun j v hj k hk => (h.lw.lt j v hj k hk).1) (fun k hk => own_span hra k hk) (fun k hk => (own_span hm k hk).1) hb.size
  · rcases List.mem_append.1 hy with hy | hy
    · exact h.bd ys hy
    · obtain rfl : ys = xs := by simpa using hy
      exact hlen
theorem spoil_bs (gh base : Nat) (ol wl : List Value) (cs : List (List S47)) (w : World) (h : BS w gh base ol wl cs) (hk : ∀ xs : List S47, xs.length ≤ 1000000000 → ∃ k, squintlaw13_same.f k xs xs = some true) (hol : ol.length ≤ 1000) :
    Calls Try.prog 17 #[.pointer (some ⟨gh, 0, none⟩)] w fun e w' => e = .returned (.bool true) ∧ Below base w w' := by
  obtain ⟨vo, vw, hbk⟩ := h.bk
  refine (spoil_any gh base vo vw ol wl cs w hbk h.lo h.lw h.pt hk hol h.bd h.sz).mono ?_
  rintro e w' ⟨rfl, hkp⟩
  refine ⟨rfl, hkp.to_below ?_ h.sz⟩
  rintro k (rfl | hk | hk | ⟨j, v, hj, hk⟩)
  · exact hbk.low
  · obtain ⟨_, inner, ho, _⟩ := hbk.ro
    exact own_base ho k hk
  · obtain ⟨_, inner, ho, _⟩ := hbk.rw
    exact own_base ho k hk
  · exact ((h.lo.append h.lw).lt j v hj k hk).2
theorem bs_new (w w1 : World) (base gh : Nat) (hb : Below base w w1) (hs : base ≤ w1.heap.size) (hg : base ≤ gh) (h : w1.heap[gh]? = some (.cells #[.slice none 0 0, .slice none 0 0, .int .i64 0] 28 (0, 0))) : BS w1 gh base [] [] [] :=
  ⟨⟨_, _, hg, h, Kd.R_nil _ _ _ _ _, Kd.R_nil _ _ _ _ _, fun k hk => by simp [Value.ownBlock] at hk⟩, Lists.nil, Lists.nil, (fun p q u v hp => by simp at hp), (fun xs hx => by cases hx), hs⟩
def Fo (e : TypeId) (base : Nat) (w w1 : World) : Prop := Below base w w1 ∧ ∀ t, t ≠ e → KT t w w1
theorem Fo.refl (e : TypeId) (base : Nat) (w : World) : Fo e base w w := ⟨Below.refl _ _, fun t _ => KT.refl t w⟩
theorem Fo.trans {e : TypeId} {base : Nat} {w w1 w2 : World} (h : Fo e base w w1) (k : Fo e base w1 w2) : Fo e base w w2 := ⟨h.1.trans k.1, fun t ht => (h.2 t ht).trans (k.2 t ht)⟩
theorem Fo.below {e : TypeId} {base : Nat} {w w1 : World} (h : Below w.heap.size w w1) (hb : base ≤ w.heap.size) : Fo e base w w1 := ⟨h.mono hb, fun t _ => KT.below h⟩
theorem BS.fo {e : TypeId} {b gh base : Nat} {w w1 : World} {ol wl : List Value} {cs : List (List S47)} (h : BS w gh base ol wl cs) (hf : Fo e b w w1) (h1 : 28 ≠ e) (h2 : 33 ≠ e) (h3 : 47 ≠ e) : BS w1 gh base ol wl cs := h.kt (hf.2 _ h1) (hf.2 _ h2) (hf.2 _ h3) hf.1.size
end Go.Proofs.Ytokbonceeglciaa.Bk
end
section
namespace Go.Proofs.Ytokbonceeglciaa.Opens
open Go.RowKit Go.Proofs.YtokbonceeglciaaW.PrintWords
def Opens {α : Type} (P : Program) (W : World) (t : TypeId) (d : Kd α) (wf : α → Prop) : Prop :=
  ∀ (H : Type) (enc : TypeId × Value → H) (base : Nat) (sp : Nat → Bool) (held : Bool) (fuel : Nat) (cs : List Value) (x : DataW H × List MemPlace),
    DataW.trod enc P W base sp held fuel t cs = some x → (∀ k, k ∈ x.1.weights P t → k ≤ reachBytes) → ∃ a, d.K W a cs ∧ wf a
variable {P : Program} {W : World} {t e : TypeId}
theorem opens_int {k : IntKind} (ht : P.underlying t = some (.int k)) : Opens P W t (Kd.int k) (fun n => (Lit.int k n).wf = true) := by
  intro H enc base sp held fuel cs x h hw
  obtain ⟨n, rfl, rfl, hn⟩ := DataW.trod_int ht h
  exact ⟨n, rfl, hn⟩
theorem mem_weightsAll {H : Type} {P : Program} {e : TypeId} {d : DataW H} {k : Nat} : ∀ {l : List (DataW H)}, d ∈ l → k ∈ d.weights P e → k ∈ DataW.weightsAll P e l
  | [], h, _ => by cases h
  | a :: l, h, hk => by
    unfold DataW.weightsAll
    rcases List.mem_cons.1 h with rfl | h
    · exact List.mem_append_left _ hk
    · exact List.mem_append_right _ (mem_weightsAll h hk)
theorem exists_list {α : Type} {p : Nat → α → Prop} : ∀ (n : Nat), (∀ i, i < n → ∃ a, p i a) → ∃ l : List α, l.length = n ∧ ∀ i a, l[i]? = some a → p i a
  | 0, _ => ⟨[], rfl, fun i a h => by simp at h⟩
  | n + 1, h => by
    obtain ⟨l, hl, hp⟩ := exists_list n (fun i hi => h i (Nat.lt_succ_of_lt hi))
    obtain ⟨a, ha⟩ := h n (Nat.lt_succ_self n)
    refine ⟨l ++ [a], by simp [hl], fun i b hb => ?_⟩
    by_cases hi : i < l.length
    · rw [List.getElem?_append_left hi] at hb
      exact hp i b hb
    · rw [List.getElem?_append_right (by omega)] at hb
      have hi2 : i - l.length = 0 := by
        cases hq : i - l.length with
        | zero => rfl
        | succ m => rw [hq] at hb; simp at hb
      rw [hi2] at hb
      injection hb with hb
      subst hb
      have : i = n := by omega
      subst this
      exact ha
theorem opens_slice {α : Type} {d : Kd α} {wf : α → Prop} {bytes : Nat} (ht : P.underlying t = some (.slice e)) (hc : P.cellsOf e = d.sz) (hb : P.bytesOf e = bytes) (he : Opens P W e d wf) :
    Opens P W t (Kd.slice e d) (fun xs => (∀ x ∈ xs, wf x) ∧ xs.length * bytes ≤ 140737488351232) := by
  intro H enc base sp held fuel cs x h hw
  rcases Deep.open_slice ht h with ⟨rfl, rfl⟩ | ⟨a, len, cap, m, n, D, Pl, rfl, hba, hl, hm, hmm, rfl, hel⟩
  · exact ⟨[], ⟨none, 0, rfl, Nat.le_refl _, Kd.C_nil _ _⟩, fun x hx => (by cases hx), by simp⟩
  have hlm : len ≤ m := by rw [hmm]; split <;> omega
  have hW : ∀ i, i < len → ∀ k, k ∈ (D i).weights P e → k ≤ reachBytes := by
    intro i hi k hk
    refine hw k ?_
    unfold DataW.weights
    rw [ht]
    refine List.mem_cons_of_mem _ (List.mem_append_left _ ?_)
    exact mem_weightsAll (List.mem_map.2 ⟨i, List.mem_range.2 hi, rfl⟩) hk
  obtain ⟨xs, hxl, hxs⟩ := exists_list (p := fun i (a' : α) => wf a' ∧ ∃ cs', W.cells? base (a.add (i * P.cellsOf e)) (P.cellsOf e) = some cs' ∧ d.K W a' cs') len (fun i hi => by
    obtain ⟨cs', h1, h2⟩ := hel i (by omega)
    obtain ⟨a', hk, hwf⟩ := he H enc base sp held n cs' _ h2 (hW i hi)
    exact ⟨a', hwf, cs', h1, hk⟩)
  refine ⟨xs, ⟨some a, cap, by rw [hxl], by rw [hxl]; exact hl, ?_⟩, fun x hx => ?_, ?_⟩
  · refine ⟨rfl, ?_, fun _ => ⟨a, rfl, fun j p hj => ?_⟩⟩
    · rw [hxl]
      exact Nat.le_trans hl (Nat.le_trans hm (by decide))
    · obtain ⟨_, cs', h1, hk⟩ := hxs j p hj
      refine ⟨cs', d.K_len hk, hk, fun i u hu => ?_⟩
      obtain ⟨_, hlen, hcell⟩ := World.cells?_some h1
      rw [hc] at hcell hlen
      have hi : i < cs'.length := (List.getElem?_eq_some_iff.1 hu).1
      have := hcell i (by omega)
      rw [Deep.add_add] at this
      rw [this, hu]
  · obtain ⟨i, hi⟩ := List.mem_iff_getElem?.1 hx
    exact (hxs i x hi).1
  · have := hw ((((List.range len).map D).length + ((List.range (m - len)).map fun j => D (len + j)).length) * P.bytesOf e) (by
      unfold DataW.weights
      rw [ht]
      exact List.mem_cons_self)
    simp only [List.length_map, List.length_range] at this
    rw [hb] at this
    rw [hxl]
    exact Nat.le_trans (Nat.mul_le_mul_right _ (by omega)) this
end Go.Proofs.Ytokbonceeglciaa.Opens
end
section
namespace Go.Proofs.Ytokbonceeglciaa.Given
open Go.RowKit Go.Proofs.YtokbonceeglciaaW.PrintWords Go.Proofs.Ytokbonceeglciaa.Print
set_option linter.unusedVariables false
set_option linter.unusedSimpArgs false
def wfN (n : Int) : Prop := (Lit.int .i64 n).wf = true
theorem opens3 (W : World) : Opens.Opens Try.prog W 3 (Kd.int .i64) wfN := Opens.opens_int Try.underlying3
theorem slice_lt {α : Type} {P : Program} {W : World} {t e : TypeId} {d : Kd α} (ht : P.underlying t = some (.slice e)) (hc : P.cellsOf e = d.sz) {H : Type} {enc : TypeId × Value → H} {base : Nat} {sp : Nat → Bool} {held : Bool} {fuel : Nat} {cs : List Value} {x : DataW H × List MemPlace}
    (h : DataW.trod enc P W base sp held fuel t cs = some x) (he : ∀ (f : Nat) (c : List Value) (y : DataW H × List MemPlace), SizeOf.sizeOf y.1 < SizeOf.sizeOf x.1 → DataW.trod enc P W base sp held f e c = some y → ∃ a, d.K W a c) : ∃ xs, (Kd.slice e d).K W xs cs := by
  rcases Deep.open_slice ht h with ⟨rfl, rfl⟩ | ⟨a, len, cap, m, n, D, Pl, rfl, hba, hl, hm, hmm, rfl, hel⟩
  · exact ⟨[], none, 0, rfl, Nat.le_refl _, Kd.C_nil _ _⟩
  have hlm : len ≤ m := by rw [hmm]; split <;> omega
  obtain ⟨xs, hxl, hxs⟩ := Opens.exists_list (p := fun i (a' : α) => ∃ cs', W.cells? base (a.add (i * P.cellsOf e)) (P.cellsOf e) = some cs' ∧ d.K W a' cs') len (fun i hi => by
    obtain ⟨cs', h1, h2⟩ := hel i (by omega)
    have hlt : SizeOf.sizeOf (D i) < SizeOf.sizeOf (DataW.slice ((List.range len).map D) ((List.range (m - len)).map fun j => D (len + j))) := by
      have h3 := List.sizeOf_lt_of_mem (List.mem_map.2 ⟨i, List.mem_range.2 hi, rfl⟩ : D i ∈ (List.range len).map D)
      simp only [DataW.slice.sizeOf_spec]
      omega
    obtain ⟨a', hk⟩ := he n cs' _ hlt h2
    exact ⟨a', cs', h1, hk⟩)
  refine ⟨xs, some a, cap, by rw [hxl], by rw [hxl]; exact hl, ?_⟩
  refine ⟨rfl, ?_, fun _ => ⟨a, rfl, fun j p hj => ?_⟩⟩
  · rw [hxl]
    exact Nat.le_trans hl (Nat.le_trans hm (by decide))
  · obtain ⟨cs', h1, hk⟩ := hxs j p hj
    refine ⟨cs', d.K_len hk, hk, fun i u hu => ?_⟩
    obtain ⟨_, hlen, hcell⟩ := World.cells?_some h1
    rw [hc] at hcell hlen
    have hi : i < cs'.length := (List.getElem?_eq_some_iff.1 hu).1
    have := hcell i (by omega)
    rw [Deep.add_add] at this
    rw [this, hu]
theorem open41 (W : World) {H : Type} {enc : TypeId × Value → H} {base : Nat} {sp : Nat → Bool} {held : Bool} : ∀ (N fuel : Nat) (cs : List Value) (x : DataW H × List MemPlace), SizeOf.sizeOf x.1 < N → DataW.trod enc Try.prog W base sp held fuel 41 cs = some x → ∃ a, k41.K W a cs
  | 0, _, _, _, hN, _ => absurd hN (Nat.not_lt_zero _)
  | N + 1, fuel, cs, x, hN, h => by
    obtain ⟨xs, n, _, rfl, hl, hlen, hf⟩ := DataW.trod_struct Try.underlying41 h
    rw [show Try.prog.cellsOf 41 = 3 by kernel_rfl] at hl
    match cs, hl, xs, (show xs.length = 3 from hlen) with
    | [c0, c1, c2], _, [y0, y1, y2], _ =>
      have h0 : DataW.trod enc Try.prog W base sp held n 3 [c0] = some y0 := by
        have := hf 0 _ rfl
        simpa [show Try.prog.cellsOf 3 = 1 by kernel_rfl] using this
      have h1 : DataW.trod enc Try.prog W base sp held n 3 [c1] = some y1 := by
        have := hf 1 _ rfl
        simpa [show Try.prog.cellsOf 3 = 1 by kernel_rfl] using this
      have h2 : DataW.trod enc Try.prog W base sp held n 39 [c2] = some y2 := by
        have := hf 2 _ rfl
        simpa [show Try.prog.cellsOf 39 = 1 by kernel_rfl] using this
      obtain ⟨m0, e0, _⟩ := DataW.trod_int Try.underlying3 h0
      injection e0 with e0 _
      subst e0
      obtain ⟨m1, e1, _⟩ := DataW.trod_int Try.underlying3 h1
      injection e1 with e1 _
      subst e1
      obtain ⟨l, A2, c2', e, hle, hC⟩ := slice_lt (d := k41) Try.underlying39 (by kernel_rfl) h2 (fun f c y hy hyt => open41 W N f c y (by
        simp only [List.map_cons, List.map_nil, DataW.agg.sizeOf_spec, List.cons.sizeOf_spec] at hN
        omega) hyt)
      injection e with e
      subst e
      exact ⟨⟨m0, m1, l⟩, k41_mk W ⟨m0, m1, l⟩ hle hC⟩
theorem opens43 (W : World) : Opens.Opens Try.prog W 43 k43 (fun _ => True) := by
  intro H enc base sp held fuel cs x h hw
  obtain ⟨xs, n, _, rfl, hl, hlen, hf⟩ := DataW.trod_struct Try.underlying43 h
  rw [show Try.prog.cellsOf 43 = 5 by kernel_rfl] at hl
  match cs, hl, xs, (show xs.length = 3 from hlen) with
  | [c0, c1, c2, c3, c4], _, [y0, y1, y2], _ =>
    have h0 : DataW.trod enc Try.prog W base sp held n 3 [c0] = some y0 := by
      have := hf 0 _ rfl
      simpa [show Try.prog.cellsOf 3 = 1 by kernel_rfl] using this
    have h1 : DataW.trod enc Try.prog W base sp held n 4 [c1] = some y1 := by
      have := hf 1 _ rfl
      simpa [show Try.prog.cellsOf 4 = 1 by kernel_rfl] using this
    have h2 : DataW.trod enc Try.prog W base sp held n 41 [c2, c3, c4] = some y2 := by
      have := hf 2 _ rfl
      simpa [show Try.prog.cellsOf 41 = 3 by kernel_rfl] using this
    obtain ⟨m0, e0, _⟩ := DataW.trod_int Try.underlying3 h0
    injection e0 with e0 _
    subst e0
    obtain ⟨b, e1, _⟩ := DataW.trod_bool Try.underlying4 h1
    injection e1 with e1 _
    subst e1
    obtain ⟨v, hv⟩ := open41 W _ n _ _ (Nat.lt_succ_self _) h2
    obtain ⟨A2, c2', e, hle, hC⟩ := k41_open hv
    rw [e]
    exact ⟨⟨m0, b, v⟩, k43_mk W ⟨m0, b, v⟩ hle hC, trivial⟩
def wfA (xs : List S43) : Prop := (∀ x ∈ xs, True) ∧ xs.length * 56 ≤ 140737488351232
theorem opens36 (W : World) : Opens.Opens Try.prog W 36 (Kd.slice 43 k43) wfA := Opens.opens_slice Try.underlying36 (by kernel_rfl) (by kernel_rfl) (opens43 W)
def wfW (x : S38) : Prop := wfN x.f0 ∧ wfA x.f1
theorem opens38 (W : World) : Opens.Opens Try.prog W 38 k38 wfW := by
  intro H enc base sp held fuel cs x h hw
  obtain ⟨xs, n, _, rfl, hl, hlen, hf⟩ := DataW.trod_struct Try.underlying38 h
  rw [show Try.prog.cellsOf 38 = 2 by kernel_rfl] at hl
  match cs, hl, xs, (show xs.length = 2 from hlen) with
  | [c0, c1], _, [y0, y1], _ =>
    have h0 : DataW.trod enc Try.prog W base sp held n 3 [c0] = some y0 := by
      have := hf 0 _ rfl
      simpa [show Try.prog.cellsOf 3 = 1 by kernel_rfl] using this
    have h1 : DataW.trod enc Try.prog W base sp held n 36 [c1] = some y1 := by
      have := hf 1 _ rfl
      simpa [show Try.prog.cellsOf 36 = 1 by kernel_rfl] using this
    have hw' : ∀ k, k ∈ y0.1.weights Try.prog 3 ∨ k ∈ y1.1.weights Try.prog 36 → k ≤ reachBytes := by
      intro k hk
      refine hw k ?_
      unfold DataW.weights
      rw [Try.underlying38]
      simp only [List.map_cons, List.map_nil, DataW.weightsEach, List.mem_append, List.not_mem_nil, or_false]
      exact hk
    obtain ⟨a0, q0, w0⟩ := opens3 W H enc base sp held n _ _ h0 (fun k hk => hw' k (Or.inl hk))
    obtain ⟨a1, q1, w1⟩ := opens36 W H enc base sp held n _ _ h1 (fun k hk => hw' k (Or.inr hk))
    exact ⟨⟨a0, a1⟩, ⟨[c0], [c1], rfl, q0, q1⟩, w0, w1⟩
def wfWs (l : List S38) : Prop := (∀ x ∈ l, wfW x) ∧ l.length * 32 ≤ 140737488351232
theorem opens22 (W : World) : Opens.Opens Try.prog W 22 (Kd.slice 38 k38) wfWs := Opens.opens_slice Try.underlying22 (by kernel_rfl) (by kernel_rfl) (opens38 W)
theorem wfWs_len {l : List S38} (h : wfWs l) : l.length ≤ 4611686018427387904 ∧ ∀ x ∈ l, x.f1.length ≤ 4611686018427387904 :=
  ⟨by have := h.2; omega, fun x hx => by have := (h.1 x hx).2.2; omega⟩
end Go.Proofs.Ytokbonceeglciaa.Given
end
section
namespace Go.Proofs.Ytokbonceeglciaa.Bk
open Go.RowKit Go.Proofs.YtokbonceeglciaaW.PrintWords Go.Proofs.YtokbonceeglciaaW.PrintLast Go.Proofs.YtokbonceeglciaaW.PrintMore Go.Proofs.Ytokbonceeglciaa.Print Go.Proofs.Ytokbonceeglciaa.Given
set_option linter.unusedVariables false
set_option linter.unusedSimpArgs false
theorem ins_len2 (l : List S38) : (insOf l).length ≤ arms l := by
  unfold insOf
  split
  · exact ins_len l
  · simp
theorem outs_len3 (l : List S38) : (outsOf l).length ≤ arms l := by
  unfold outsOf
  split
  · exact outs_len2 l
  · simp
theorem both_Pairs (W : World) (A : Option Addr) (n c : Nat) (l : List S38) (P : List S47) (hP : P = pairsOf l) (hn : l.length = n) (hm : l.length + arms l ≤ 4000) (hC : Kd.C k38 W A l.length l) (hc : n ≤ c) :
    (Calls Try.prog 10 #[.slice A n c] W fun e w' => ∃ v0_ : Value, e = .returned v0_ ∧ Kd.R k47 47 w' W.heap.size (fun _ => True) v0_ P ∧ Below W.heap.size W w') ∧
    (Calls Try.prog 11 #[.slice A n c] W fun e w' => ∃ v0_ : Value, e = .returned v0_ ∧ Kd.R k47 47 w' W.heap.size (fun _ => True) v0_ P ∧ Below W.heap.size W w') := by
  subst hn
  subst hP
  obtain ⟨k, hk⟩ := ref_pairs l (by omega)
  exact ⟨post_Pairs.calls A c l _ W hC hc (by unfold post_Pairs.f; rw [if_pos (by omega)]), squintref13_Pairs.calls k A c l _ W hC hc hk⟩
theorem both_Ins (W : World) (A : Option Addr) (n c : Nat) (l : List S38) (P : List S47) (hP : P = insOf l) (hn : l.length = n) (hm : l.length + arms l ≤ 4000) (hC : Kd.C k38 W A l.length l) (hc : n ≤ c) :
    (Calls Try.prog 12 #[.slice A n c] W fun e w' => ∃ v0_ : Value, e = .returned v0_ ∧ Kd.R k47 47 w' W.heap.size (fun _ => True) v0_ P ∧ Below W.heap.size W w') ∧
    (Calls Try.prog 13 #[.slice A n c] W fun e w' => ∃ v0_ : Value, e = .returned v0_ ∧ Kd.R k47 47 w' W.heap.size (fun _ => True) v0_ P ∧ Below W.heap.size W w') := by
  subst hn
  subst hP
  obtain ⟨k, hk⟩ := ref_ins l (by omega)
  exact ⟨post_Ins.calls A c l _ W hC hc (by unfold post_Ins.f; rw [if_pos (by omega)]), squintref13_Ins.calls k A c l _ W hC hc hk⟩
theorem both_Outs (W : World) (A : Option Addr) (n c : Nat) (l : List S38) (P : List S47) (hP : P = outsOf l) (hn : l.length = n) (hm : l.length + arms l ≤ 4000) (hC : Kd.C k38 W A l.length l) (hc : n ≤ c) :
    (Calls Try.prog 14 #[.slice A n c] W fun e w' => ∃ v0_ : Value, e = .returned v0_ ∧ Kd.R k47 47 w' W.heap.size (fun _ => True) v0_ P ∧ Below W.heap.size W w') ∧
    (Calls Try.prog 15 #[.slice A n c] W fun e w' => ∃ v0_ : Value, e = .returned v0_ ∧ Kd.R k47 47 w' W.heap.size (fun _ => True) v0_ P ∧ Below W.heap.size W w') := by
  subst hn
  subst hP
  obtain ⟨k, hk⟩ := ref_outs l (by omega)
  exact ⟨post_Outs.calls A c l _ W hC hc (by unfold post_Outs.f; rw [if_pos (by omega)]), squintref13_Outs.calls k A c l _ W hC hc hk⟩
theorem still_call (W : World) (ga : Nat) (Ar A : Option Addr) (cr c : Nat) (l : List S38) (h0 : Kd.C k38 W (some ⟨ga, 0, none⟩) (l ++ [tailW]).length (l ++ [tailW])) (h1 : Kd.C (Kd.slice 43 k43) W Ar (marked l (FL l)).length (marked l (FL l))) (hc1 : l.length ≤ cr) (h2 : Kd.C k38 W A l.length l) (hc : l.length ≤ c) (hm : l.length + arms l ≤ 4000) :
    Calls Try.prog 16 #[.slice (some ⟨ga, 0, none⟩) (l.length + 1) (l.length + 1), .slice Ar l.length cr, .slice A l.length c] W fun e w' => e = .returned (.bool true) ∧ Below W.heap.size W w' := by
  obtain ⟨k, hk⟩ := still_says l (by omega) (fun x hx => by have := arms_mem l x hx; omega)
  have h := squintlaw13_still.calls k (some ⟨ga, 0, none⟩) (l.length + 1) (l ++ [tailW]) Ar cr (marked l (FL l)) A c l true W h0 (by simp) h1 (by rw [marked_len]; exact hc1) h2 hc hk
  rw [List.length_append, marked_len] at h
  exact h.mono fun _ _ h => ⟨h.1, h.2.below⟩
theorem arms_flip (l : List S38) : arms (l.map flipW) = arms l := by
  unfold arms
  rw [List.map_map]
  congr 1
  refine List.map_congr_left fun x _ => ?_
  exact List.length_map _
set_option maxRecDepth 100000 in
set_option maxHeartbeats 8000000 in
theorem tells_far (A : Option Addr) (c : Nat) (l : List S38) (B : Option Addr) (d : Nat) (l2 : List S38) (w : World) (hr : Kd.C k38 w A l.length l) (hc : l.length ≤ c) (hr2 : Kd.C k38 w B l2.length l2) (hc2 : l2.length ≤ d) (b1 b2 : Bool) (k1 k2 : Nat) (h1 : squintlaw13_beyond.f k1 l = some b1) (h2 : squintlaw13_beyond.f k2 l2 = some b2) (hb : b1 = true ∨ (b1 = false ∧ b2 = true)) :
    Calls Try.prog 3 #[.slice A l.length c, .slice B l2.length d] w fun e w' => e = .returned (.bool true) ∧ Below w.heap.size w w' := by
  have HR := Aside0.mk hr
  have HR2 := Aside0.mk hr2
  have H1 := Aside0.mk h1
  have H2 := Aside0.mk h2
  have P1 := Aside0.mk True.intro
  have P2 := Aside0.mk True.intro
  clear hr hr2 h1 h2
  have hsh : squintlaw13_shown.f = some true := by kernel_rfl
  have HSH := Aside0.mk hsh
  clear hsh
  rcases hb with rfl | ⟨rfl, rfl⟩
  all_goals
    go_enter Try.func3, Try.ntmps3
    go_wp2_with (first
      | (go_at_call 6; refine (squintlaw13_shown.calls true w HSH.out).mono ?_; rintro e w1 ⟨rfl, hb⟩; have B1 := Aside0.mk hb; clear hb)
      | (go_at_call 7; clear P1; refine (squintlaw13_beyond.calls k1 A c l _ _ (Kd.C_below HR.out B1.out) hc H1.out).mono ?_; rintro e w2 ⟨rfl, hd⟩; have B2 := Aside0.mk (below_then B1.out B1.out.size hd.below); clear hd)
      | (go_at_call 7; clear P2; refine (squintlaw13_beyond.calls k2 B d l2 _ _ (Kd.C_below HR2.out B2.out) hc2 H2.out).mono ?_; rintro e w3 ⟨rfl, hd⟩; have B3 := Aside0.mk (below_then B2.out B2.out.size hd.below); clear hd))
    go_returns
    first | exact ⟨rfl, B3.out⟩ | exact ⟨rfl, B2.out⟩
set_option maxRecDepth 100000 in
set_option maxHeartbeats 16000000 in
theorem tells_near (A : Option Addr) (c : Nat) (l : List S38) (B : Option Addr) (d : Nat) (l2 : List S38) (w : World) (hr : Kd.C k38 w A l.length l) (hc : l.length ≤ c) (hr2 : Kd.C k38 w B l2.length l2) (hc2 : l2.length ≤ d) (k1 k2 : Nat) (h1 : squintlaw13_beyond.f k1 l = some false) (h2 : squintlaw13_beyond.f k2 l2 = some false) (hm : l.length + arms l ≤ 4000) (hm2 : l2.length + arms l2 ≤ 4000) :
    Calls Try.prog 3 #[.slice A l.length c, .slice B l2.length d] w fun e w' => e = .returned (.bool true) ∧ Below w.heap.size w w' := by
  have HR := Aside0.mk hr
  have HR2 := Aside0.mk hr2
  have HC := Aside0.mk hc
  have HC2 := Aside0.mk hc2
  have H1 := Aside0.mk h1
  have H2 := Aside0.mk h2
  have HM := Aside0.mk hm
  have HM2 := Aside0.mk hm2
  have P1 := Aside0.mk True.intro
  have P2 := Aside0.mk True.intro
  have hsh : squintlaw13_shown.f = some true := by kernel_rfl
  have HSH := Aside0.mk hsh
  have hal : arms (l.map flipW) = arms l := arms_flip l
  have hal2 : (l.map flipW).length = l.length := List.length_map _
  obtain ⟨a0, ha0⟩ : ∃ P, P = pairsOf l := ⟨_, rfl⟩
  have La0 : Aside0 (a0.length ≤ 16000000) := ⟨by rw [ha0]; exact (Nat.le_trans (pairsOf_len _) (Nat.mul_le_mul (show arms l ≤ 4000 by omega) (show arms l ≤ 4000 by omega)))⟩
  have Sa0 := Aside0.mk (sameP_self a0 (by have := La0.out; omega))
  obtain ⟨a1, ha1⟩ : ∃ P, P = insOf l := ⟨_, rfl⟩
  have La1 : Aside0 (a1.length ≤ 16000000) := ⟨by rw [ha1]; exact (Nat.le_trans (ins_len2 _) (show arms l ≤ 16000000 by omega))⟩
  have Sa1 := Aside0.mk (sameP_self a1 (by have := La1.out; omega))
  obtain ⟨a2, ha2⟩ : ∃ P, P = outsOf l := ⟨_, rfl⟩
  have La2 : Aside0 (a2.length ≤ 16000000) := ⟨by rw [ha2]; exact (Nat.le_trans (outs_len3 _) (show arms l ≤ 16000000 by omega))⟩
  have Sa2 := Aside0.mk (sameP_self a2 (by have := La2.out; omega))
  obtain ⟨b0, hb0⟩ : ∃ P, P = pairsOf l2 := ⟨_, rfl⟩
  have Lb0 : Aside0 (b0.length ≤ 16000000) := ⟨by rw [hb0]; exact (Nat.le_trans (pairsOf_len _) (Nat.mul_le_mul (show arms l2 ≤ 4000 by omega) (show arms l2 ≤ 4000 by omega)))⟩
  have Sb0 := Aside0.mk (sameP_self b0 (by have := Lb0.out; omega))
  obtain ⟨b1, hb1⟩ : ∃ P, P = insOf l2 := ⟨_, rfl⟩
  have Lb1 : Aside0 (b1.length ≤ 16000000) := ⟨by rw [hb1]; exact (Nat.le_trans (ins_len2 _) (show arms l2 ≤ 16000000 by omega))⟩
  have Sb1 := Aside0.mk (sameP_self b1 (by have := Lb1.out; omega))
  obtain ⟨b2, hb2⟩ : ∃ P, P = outsOf l2 := ⟨_, rfl⟩
  have Lb2 : Aside0 (b2.length ≤ 16000000) := ⟨by rw [hb2]; exact (Nat.le_trans (outs_len3 _) (show arms l2 ≤ 16000000 by omega))⟩
  have Sb2 := Aside0.mk (sameP_self b2 (by have := Lb2.out; omega))
  obtain ⟨f0, hf0⟩ : ∃ P, P = pairsOf (l.map flipW) := ⟨_, rfl⟩
  have Lf0 : Aside0 (f0.length ≤ 16000000) := ⟨by rw [hf0]; exact (Nat.le_trans (pairsOf_len _) (Nat.mul_le_mul (show arms (l.map flipW) ≤ 4000 by rw [hal]; omega) (show arms (l.map flipW) ≤ 4000 by rw [hal]; omega)))⟩
  have Sf0 := Aside0.mk (sameP_self f0 (by have := Lf0.out; omega))
  obtain ⟨f1, hf1⟩ : ∃ P, P = insOf (l.map flipW) := ⟨_, rfl⟩
  have Lf1 : Aside0 (f1.length ≤ 16000000) := ⟨by rw [hf1]; exact (Nat.le_trans (ins_len2 _) (show arms (l.map flipW) ≤ 16000000 by rw [hal]; omega))⟩
  have Sf1 := Aside0.mk (sameP_self f1 (by have := Lf1.out; omega))
  obtain ⟨f2, hf2⟩ : ∃ P, P = outsOf (l.map flipW) := ⟨_, rfl⟩
  have Lf2 : Aside0 (f2.length ≤ 16000000) := ⟨by rw [hf2]; exact (Nat.le_trans (outs_len3 _) (show arms (l.map flipW) ≤ 16000000 by rw [hal]; omega))⟩
  have Sf2 := Aside0.mk (sameP_self f2 (by have := Lf2.out; omega))
  have HLN : Aside0 (∀ x ∈ l, x.f1.length ≤ 4000) := ⟨fun x hx => by have := arms_mem l x hx; omega⟩
  have HLM : Aside0 (∀ x ∈ l, x.f1.length ≤ 1000000) := ⟨fun x hx => by have := arms_mem l x hx; omega⟩
  have hl4 : l.length ≤ 4000 := by omega
  have Cb0 : Aside0 (∀ W, Fr w.heap.size w W → Calls Try.prog 10 #[.slice B l2.length d] W fun e w' => ∃ v0_ : Value, e = .returned v0_ ∧ Kd.R k47 47 w' W.heap.size (fun _ => True) v0_ b0 ∧ Below W.heap.size W w') := ⟨fun W hF => (both_Pairs W B l2.length d l2 _ hb0 rfl HM2.out (hF.C HR2.out) HC2.out).1⟩
  have Db0 : Aside0 (∀ W, Fr w.heap.size w W → Calls Try.prog 11 #[.slice B l2.length d] W fun e w' => ∃ v0_ : Value, e = .returned v0_ ∧ Kd.R k47 47 w' W.heap.size (fun _ => True) v0_ b0 ∧ Below W.heap.size W w') := ⟨fun W hF => (both_Pairs W B l2.length d l2 _ hb0 rfl HM2.out (hF.C HR2.out) HC2.out).2⟩
  have Cb1 : Aside0 (∀ W, Fr w.heap.size w W → Calls Try.prog 12 #[.slice B l2.length d] W fun e w' => ∃ v0_ : Value, e = .returned v0_ ∧ Kd.R k47 47 w' W.heap.size (fun _ => True) v0_ b1 ∧ Below W.heap.size W w') := ⟨fun W hF => (both_Ins W B l2.length d l2 _ hb1 rfl HM2.out (hF.C HR2.out) HC2.out).1⟩
  have Db1 : Aside0 (∀ W, Fr w.heap.size w W → Calls Try.prog 13 #[.slice B l2.length d] W fun e w' => ∃ v0_ : Value, e = .returned v0_ ∧ Kd.R k47 47 w' W.heap.size (fun _ => True) v0_ b1 ∧ Below W.heap.size W w') := ⟨fun W hF => (both_Ins W B l2.length d l2 _ hb1 rfl HM2.out (hF.C HR2.out) HC2.out).2⟩
  have Cb2 : Aside0 (∀ W, Fr w.heap.size w W → Calls Try.prog 14 #[.slice B l2.length d] W fun e w' => ∃ v0_ : Value, e = .returned v0_ ∧ Kd.R k47 47 w' W.heap.size (fun _ => True) v0_ b2 ∧ Below W.heap.size W w') := ⟨fun W hF => (both_Outs W B l2.length d l2 _ hb2 rfl HM2.out (hF.C HR2.out) HC2.out).1⟩
  have Db2 : Aside0 (∀ W, Fr w.heap.size w W → Calls Try.prog 15 #[.slice B l2.length d] W fun e w' => ∃ v0_ : Value, e = .returned v0_ ∧ Kd.R k47 47 w' W.heap.size (fun _ => True) v0_ b2 ∧ Below W.heap.size W w') := ⟨fun W hF => (both_Outs W B l2.length d l2 _ hb2 rfl HM2.out (hF.C HR2.out) HC2.out).2⟩
  have Hb0 := Aside0.mk hb0
  have Ha0 := Aside0.mk ha0
  have Hf0 := Aside0.mk hf0
  have Hb1 := Aside0.mk hb1
  have Ha1 := Aside0.mk ha1
  have Hf1 := Aside0.mk hf1
  have Hb2 := Aside0.mk hb2
  have Ha2 := Aside0.mk ha2
  have Hf2 := Aside0.mk hf2
  have HAL := Aside0.mk hal
  have HAL2 := Aside0.mk hal2
  clear hr hr2 h1 h2 hsh hal hal2 hm hm2 hc hc2 ha0 ha1 ha2 hb0 hb1 hb2 hf0 hf1 hf2
  go_enter Try.func3, Try.ntmps3
  go_upto_region 5 with (first
    | (go_at_call 6; refine (squintlaw13_shown.calls true w HSH.out).mono ?_; rintro e w1 ⟨rfl, hb⟩; have B1 := Aside0.mk hb; clear hb)
    | (go_at_call 7; clear P1; refine (squintlaw13_beyond.calls k1 A c l _ _ (Kd.C_below HR.out B1.out) HC.out H1.out).mono ?_; rintro e w2 ⟨rfl, hd⟩; have B2 := Aside0.mk (below_then B1.out B1.out.size hd.below); clear hd)
    | (go_at_call 7; clear P2; refine (squintlaw13_beyond.calls k2 B d l2 _ _ (Kd.C_below HR2.out B2.out) HC2.out H2.out).mono ?_; rintro e w3 ⟨rfl, hd⟩; have B3 := Aside0.mk (below_then B2.out B2.out.size hd.below); clear hd))
  have B4 := Aside0.mk (below_alloc B3.out (.cells #[.slice none 0 0, .slice none 0 0, .int .i64 0] 28))
  have HBS : Aside0 (BS (w3.alloc (.cells #[.slice none 0 0, .slice none 0 0, .int .i64 0] 28)) w3.heap.size w.heap.size [] [] []) := ⟨bs_new w _ _ _ B4.out B4.out.size B3.out.size (heap_alloc_new _ _)⟩
  generalize w3.alloc (.cells #[.slice none 0 0, .slice none 0 0, .int .i64 0] 28) = w4 at B4 HBS ⊢
  obtain ⟨gh, hgh⟩ : ∃ g_, g_ = w3.heap.size := ⟨_, rfl⟩
  rw [← hgh] at HBS ⊢
  clear hgh B1 B2 B3 H1 H2 HSH
  go_upto_region 6 with (go_at_call 8; go_loud (refine (lent_any A c l w w4 HR.out B4.out HC.out hl4 HLN.out).mono ?_); rintro e w5 ⟨ga, gs, vr, rfl, hL, hb⟩; have HL := Aside0.mk hL; have B5 := Aside0.mk hb; clear hL hb)
  obtain ⟨Ar, cr, rfl⟩ : ∃ Ar cr, vr = .slice Ar l.length cr := by
    obtain ⟨Ar, cr, e⟩ := Kd.R_slice HL.out.rows
    rw [rowsM_len l gs HL.out.len] at e
    exact ⟨Ar, cr, e⟩
  have HBS5 := Aside0.mk (HBS.out.below B5.out)
  have F5 : Aside0 (Fr w.heap.size w w5) := ⟨Fr.below (below_then B4.out B4.out.size B5.out) (Nat.le_refl _)⟩
  have ZZ : Aside0 (w.heap.size ≤ w5.heap.size) := ⟨F5.out.1.size⟩
  have HLC : Aside0 (∀ W, Fr w.heap.size w5 W → Lent w W w4.heap.size l (FL l) gs ga tail38 (.slice Ar l.length cr)) := ⟨fun W hF => HL.out.kt (hF.2 38 (by decide) (by decide)) (hF.2 36 (by decide) (by decide)) (hF.2 43 (by decide) (by decide))⟩
  have HIN : Aside0 (∀ W, Fr w.heap.size w5 W → Kd.C k38 W (some ⟨ga, 0, none⟩) l.length l) := ⟨fun W hF => by
    have h := (HLC.out W hF).C (F5.out.1.trans hF.1) HLM.out (by omega)
    rw [withF_self] at h
    exact h⟩
  have ZX : Aside0 (w.heap.size ≤ w4.heap.size) := ⟨B4.out.size⟩
  clear HBS B5 B4
  have Ci0 : Aside0 (∀ W, Fr w.heap.size w5 W → Calls Try.prog 10 #[.slice (some ⟨ga, 0, none⟩) l.length (l.length + 1)] W fun e w' => ∃ v0_ : Value, e = .returned v0_ ∧ Kd.R k47 47 w' W.heap.size (fun _ => True) v0_ a0 ∧ Below W.heap.size W w') := ⟨fun W hF => (both_Pairs W (some ⟨ga, 0, none⟩) l.length (l.length + 1) l _ Ha0.out rfl HM.out (HIN.out W hF) (Nat.le_succ _)).1⟩
  have Di0 : Aside0 (∀ W, Fr w.heap.size w5 W → Calls Try.prog 11 #[.slice (some ⟨ga, 0, none⟩) l.length (l.length + 1)] W fun e w' => ∃ v0_ : Value, e = .returned v0_ ∧ Kd.R k47 47 w' W.heap.size (fun _ => True) v0_ a0 ∧ Below W.heap.size W w') := ⟨fun W hF => (both_Pairs W (some ⟨ga, 0, none⟩) l.length (l.length + 1) l _ Ha0.out rfl HM.out (HIN.out W hF) (Nat.le_succ _)).2⟩
  have Ci1 : Aside0 (∀ W, Fr w.heap.size w5 W → Calls Try.prog 12 #[.slice (some ⟨ga, 0, none⟩) l.length (l.length + 1)] W fun e w' => ∃ v0_ : Value, e = .returned v0_ ∧ Kd.R k47 47 w' W.heap.size (fun _ => True) v0_ a1 ∧ Below W.heap.size W w') := ⟨fun W hF => (both_Ins W (some ⟨ga, 0, none⟩) l.length (l.length + 1) l _ Ha1.out rfl HM.out (HIN.out W hF) (Nat.le_succ _)).1⟩
  have Di1 : Aside0 (∀ W, Fr w.heap.size w5 W → Calls Try.prog 13 #[.slice (some ⟨ga, 0, none⟩) l.length (l.length + 1)] W fun e w' => ∃ v0_ : Value, e = .returned v0_ ∧ Kd.R k47 47 w' W.heap.size (fun _ => True) v0_ a1 ∧ Below W.heap.size W w') := ⟨fun W hF => (both_Ins W (some ⟨ga, 0, none⟩) l.length (l.length + 1) l _ Ha1.out rfl HM.out (HIN.out W hF) (Nat.le_succ _)).2⟩
  have Ci2 : Aside0 (∀ W, Fr w.heap.size w5 W → Calls Try.prog 14 #[.slice (some ⟨ga, 0, none⟩) l.length (l.length + 1)] W fun e w' => ∃ v0_ : Value, e = .returned v0_ ∧ Kd.R k47 47 w' W.heap.size (fun _ => True) v0_ a2 ∧ Below W.heap.size W w') := ⟨fun W hF => (both_Outs W (some ⟨ga, 0, none⟩) l.length (l.length + 1) l _ Ha2.out rfl HM.out (HIN.out W hF) (Nat.le_succ _)).1⟩
  have Di2 : Aside0 (∀ W, Fr w.heap.size w5 W → Calls Try.prog 15 #[.slice (some ⟨ga, 0, none⟩) l.length (l.length + 1)] W fun e w' => ∃ v0_ : Value, e = .returned v0_ ∧ Kd.R k47 47 w' W.heap.size (fun _ => True) v0_ a2 ∧ Below W.heap.size W w') := ⟨fun W hF => (both_Outs W (some ⟨ga, 0, none⟩) l.length (l.length + 1) l _ Ha2.out rfl HM.out (HIN.out W hF) (Nat.le_succ _)).2⟩
  have n0_ := Aside0.mk (fun W (hF : Fr w.heap.size w5 W) => Cb0.out W (F5.out.trans hF))
  clear Cb0
  have Cb0 := n0_
  clear n0_
  have n0_ := Aside0.mk (fun W (hF : Fr w.heap.size w5 W) => Db0.out W (F5.out.trans hF))
  clear Db0
  have Db0 := n0_
  clear n0_
  have n0_ := Aside0.mk (fun W (hF : Fr w.heap.size w5 W) => Cb1.out W (F5.out.trans hF))
  clear Cb1
  have Cb1 := n0_
  clear n0_
  have n0_ := Aside0.mk (fun W (hF : Fr w.heap.size w5 W) => Db1.out W (F5.out.trans hF))
  clear Db1
  have Db1 := n0_
  clear n0_
  have n0_ := Aside0.mk (fun W (hF : Fr w.heap.size w5 W) => Cb2.out W (F5.out.trans hF))
  clear Cb2
  have Cb2 := n0_
  clear n0_
  have n0_ := Aside0.mk (fun W (hF : Fr w.heap.size w5 W) => Db2.out W (F5.out.trans hF))
  clear Db2
  have Db2 := n0_
  clear n0_
  go_upto_region 9 with (fail)
  go_loopw [10, 11, 12, 13, 14, 15] (fun v10 v11 _ _ _ _ wr => ∃ (i : Nat) (ol wl : List Value) (cs : List (List S47)), v11 = .int .i64 i ∧ v10 = .bool true ∧ i ≤ 3 ∧ ol.length = 3 * i ∧ Aside0 (BS wr gh w.heap.size ol wl cs) ∧ Aside0 (Fr w.heap.size w5 wr)) (fun _ v11 _ _ _ _ _ => 3 - (intOf v11).toNat)
  case atStart => exact ⟨0, [], [], [], rfl, rfl, by omega, rfl, HBS5, ⟨Fr.refl _ _⟩⟩
  case round =>
    clear HBS5
    obtain ⟨i, ol, wl, cs, rfl, rfl, hi, hol, HBR, HFR⟩ := hrel
    have LN : Aside0 (ol.length ≤ 900) := ⟨by omega⟩
    have HOL := Aside0.mk hol
    clear hol
    by_cases hlt : i < 3
    · obtain ⟨wo, rfl⟩ : ∃ wo : World, wo = wr := ⟨_, rfl⟩
      by_cases h1 : i = 1
      · subst h1
        go_upto_region 15 with (first
          | (go_at_call 10; refine (Cb0.out _ HFR.out).mono ?_; rintro e wap0 ⟨va, rfl, hR, hb⟩; obtain ⟨Aap0, cap0, rfl⟩ := Kd.R_slice hR; have RAp0 := Aside0.mk hR; have BAp0 := Aside0.mk hb; have FAp0 := Aside0.mk (HFR.out.then_ ZZ.out hb); clear hR hb)
          | (go_at_call 11; refine (Db0.out _ FAp0.out).mono ?_; rintro e wbp0 ⟨vb, rfl, hR, hb⟩; obtain ⟨Abp0, cbp0, rfl⟩ := Kd.R_slice hR; have RBp0 := Aside0.mk hR; have BBp0 := Aside0.mk hb; have FBp0 := Aside0.mk (FAp0.out.then_ ZZ.out hb); clear hR hb)
          | (go_at_call 9; go_loud (refine (keep_bs gh w.heap.size Aap0 Abp0 cap0 cbp0 b0 ol wl cs wo wbp0 HBR.out (below_then BAp0.out BAp0.out.size BBp0.out) (Kd.R_below RAp0.out BBp0.out) (Kd.R_lower RBp0.out (Nat.le_trans HBR.out.sz BAp0.out.size)) Sb0.out (by have := Lb0.out; omega) (by have := LN.out; first | omega | (simp only [List.length_append, List.length_cons, List.length_nil]; omega))).mono ?_); rintro e wkp0 ⟨rfl, mp0, hbs, hf⟩; have BSp0 := Aside0.mk hbs; have FKp0 := Aside0.mk (FBp0.out.trans hf); clear hbs hf))
        clear RAp0 BAp0 FAp0 RBp0 BBp0 FBp0
        go_upto_region 16 with (first
          | (go_at_call 12; refine (Cb1.out _ FKp0.out).mono ?_; rintro e wap1 ⟨va, rfl, hR, hb⟩; obtain ⟨Aap1, cap1, rfl⟩ := Kd.R_slice hR; have RAp1 := Aside0.mk hR; have BAp1 := Aside0.mk hb; have FAp1 := Aside0.mk (FKp0.out.then_ ZZ.out hb); clear hR hb)
          | (go_at_call 13; refine (Db1.out _ FAp1.out).mono ?_; rintro e wbp1 ⟨vb, rfl, hR, hb⟩; obtain ⟨Abp1, cbp1, rfl⟩ := Kd.R_slice hR; have RBp1 := Aside0.mk hR; have BBp1 := Aside0.mk hb; have FBp1 := Aside0.mk (FAp1.out.then_ ZZ.out hb); clear hR hb)
          | (go_at_call 9; go_loud (refine (keep_bs gh w.heap.size Aap1 Abp1 cap1 cbp1 b1 (ol ++ [.slice Aap0 b0.length cap0]) (wl ++ [mp0]) (cs ++ [b0]) wkp0 wbp1 BSp0.out (below_then BAp1.out BAp1.out.size BBp1.out) (Kd.R_below RAp1.out BBp1.out) (Kd.R_lower RBp1.out (Nat.le_trans BSp0.out.sz BAp1.out.size)) Sb1.out (by have := Lb1.out; omega) (by have := LN.out; first | omega | (simp only [List.length_append, List.length_cons, List.length_nil]; omega))).mono ?_); rintro e wkp1 ⟨rfl, mp1, hbs, hf⟩; have BSp1 := Aside0.mk hbs; have FKp1 := Aside0.mk (FBp1.out.trans hf); clear hbs hf))
        clear RAp1 BAp1 FAp1 RBp1 BBp1 FBp1
        go_upto_region 17 with (first
          | (go_at_call 14; refine (Cb2.out _ FKp1.out).mono ?_; rintro e wap2 ⟨va, rfl, hR, hb⟩; obtain ⟨Aap2, cap2, rfl⟩ := Kd.R_slice hR; have RAp2 := Aside0.mk hR; have BAp2 := Aside0.mk hb; have FAp2 := Aside0.mk (FKp1.out.then_ ZZ.out hb); clear hR hb)
          | (go_at_call 15; refine (Db2.out _ FAp2.out).mono ?_; rintro e wbp2 ⟨vb, rfl, hR, hb⟩; obtain ⟨Abp2, cbp2, rfl⟩ := Kd.R_slice hR; have RBp2 := Aside0.mk hR; have BBp2 := Aside0.mk hb; have FBp2 := Aside0.mk (FAp2.out.then_ ZZ.out hb); clear hR hb)
          | (go_at_call 9; go_loud (refine (keep_bs gh w.heap.size Aap2 Abp2 cap2 cbp2 b2 ((ol ++ [.slice Aap0 b0.length cap0]) ++ [.slice Aap1 b1.length cap1]) ((wl ++ [mp0]) ++ [mp1]) ((cs ++ [b0]) ++ [b1]) wkp1 wbp2 BSp1.out (below_then BAp2.out BAp2.out.size BBp2.out) (Kd.R_below RAp2.out BBp2.out) (Kd.R_lower RBp2.out (Nat.le_trans BSp1.out.sz BAp2.out.size)) Sb2.out (by have := Lb2.out; omega) (by have := LN.out; first | omega | (simp only [List.length_append, List.length_cons, List.length_nil]; omega))).mono ?_); rintro e wkp2 ⟨rfl, mp2, hbs, hf⟩; have BSp2 := Aside0.mk hbs; have FKp2 := Aside0.mk (FBp2.out.trans hf); clear hbs hf))
        clear RAp2 BAp2 FAp2 RBp2 BBp2 FBp2
        go_wp2_with (fail)
        go_roundw
        case rel => exact ⟨2, _, _, _, by go_num, rfl, by omega, by have := HOL.out; simp only [List.length_append, List.length_cons, List.length_nil]; omega, BSp2, FKp2⟩
        case measure => simp [intOf]
      · have e1 : (i == 1) = false := beq_eq_false_iff_ne.2 h1
        have e2 : ((i : Int) == 1) = false := beq_eq_false_iff_ne.2 (by omega)
        have e3 : decide ((i : Int) < 3) = true := decide_eq_true (by omega)
        go_upto_region 15 with (first
          | (go_at_call 10; refine (Ci0.out _ HFR.out).mono ?_; rintro e waq0 ⟨va, rfl, hR, hb⟩; obtain ⟨Aaq0, caq0, rfl⟩ := Kd.R_slice hR; have RAq0 := Aside0.mk hR; have BAq0 := Aside0.mk hb; have FAq0 := Aside0.mk (HFR.out.then_ ZZ.out hb); clear hR hb)
          | (go_at_call 11; refine (Di0.out _ FAq0.out).mono ?_; rintro e wbq0 ⟨vb, rfl, hR, hb⟩; obtain ⟨Abq0, cbq0, rfl⟩ := Kd.R_slice hR; have RBq0 := Aside0.mk hR; have BBq0 := Aside0.mk hb; have FBq0 := Aside0.mk (FAq0.out.then_ ZZ.out hb); clear hR hb)
          | (go_at_call 9; go_loud (refine (keep_bs gh w.heap.size Aaq0 Abq0 caq0 cbq0 a0 ol wl cs wo wbq0 HBR.out (below_then BAq0.out BAq0.out.size BBq0.out) (Kd.R_below RAq0.out BBq0.out) (Kd.R_lower RBq0.out (Nat.le_trans HBR.out.sz BAq0.out.size)) Sa0.out (by have := La0.out; omega) (by have := LN.out; first | omega | (simp only [List.length_append, List.length_cons, List.length_nil]; omega))).mono ?_); rintro e wkq0 ⟨rfl, mq0, hbs, hf⟩; have BSq0 := Aside0.mk hbs; have FKq0 := Aside0.mk (FBq0.out.trans hf); clear hbs hf))
        clear RAq0 BAq0 FAq0 RBq0 BBq0 FBq0
        go_upto_region 16 with (first
          | (go_at_call 12; refine (Ci1.out _ FKq0.out).mono ?_; rintro e waq1 ⟨va, rfl, hR, hb⟩; obtain ⟨Aaq1, caq1, rfl⟩ := Kd.R_slice hR; have RAq1 := Aside0.mk hR; have BAq1 := Aside0.mk hb; have FAq1 := Aside0.mk (FKq0.out.then_ ZZ.out hb); clear hR hb)
          | (go_at_call 13; refine (Di1.out _ FAq1.out).mono ?_; rintro e wbq1 ⟨vb, rfl, hR, hb⟩; obtain ⟨Abq1, cbq1, rfl⟩ := Kd.R_slice hR; have RBq1 := Aside0.mk hR; have BBq1 := Aside0.mk hb; have FBq1 := Aside0.mk (FAq1.out.then_ ZZ.out hb); clear hR hb)
          | (go_at_call 9; go_loud (refine (keep_bs gh w.heap.size Aaq1 Abq1 caq1 cbq1 a1 (ol ++ [.slice Aaq0 a0.length caq0]) (wl ++ [mq0]) (cs ++ [a0]) wkq0 wbq1 BSq0.out (below_then BAq1.out BAq1.out.size BBq1.out) (Kd.R_below RAq1.out BBq1.out) (Kd.R_lower RBq1.out (Nat.le_trans BSq0.out.sz BAq1.out.size)) Sa1.out (by have := La1.out; omega) (by have := LN.out; first | omega | (simp only [List.length_append, List.length_cons, List.length_nil]; omega))).mono ?_); rintro e wkq1 ⟨rfl, mq1, hbs, hf⟩; have BSq1 := Aside0.mk hbs; have FKq1 := Aside0.mk (FBq1.out.trans hf); clear hbs hf))
        clear RAq1 BAq1 FAq1 RBq1 BBq1 FBq1
        go_upto_region 17 with (first
          | (go_at_call 14; refine (Ci2.out _ FKq1.out).mono ?_; rintro e waq2 ⟨va, rfl, hR, hb⟩; obtain ⟨Aaq2, caq2, rfl⟩ := Kd.R_slice hR; have RAq2 := Aside0.mk hR; have BAq2 := Aside0.mk hb; have FAq2 := Aside0.mk (FKq1.out.then_ ZZ.out hb); clear hR hb)
          | (go_at_call 15; refine (Di2.out _ FAq2.out).mono ?_; rintro e wbq2 ⟨vb, rfl, hR, hb⟩; obtain ⟨Abq2, cbq2, rfl⟩ := Kd.R_slice hR; have RBq2 := Aside0.mk hR; have BBq2 := Aside0.mk hb; have FBq2 := Aside0.mk (FAq2.out.then_ ZZ.out hb); clear hR hb)
          | (go_at_call 9; go_loud (refine (keep_bs gh w.heap.size Aaq2 Abq2 caq2 cbq2 a2 ((ol ++ [.slice Aaq0 a0.length caq0]) ++ [.slice Aaq1 a1.length caq1]) ((wl ++ [mq0]) ++ [mq1]) ((cs ++ [a0]) ++ [a1]) wkq1 wbq2 BSq1.out (below_then BAq2.out BAq2.out.size BBq2.out) (Kd.R_below RAq2.out BBq2.out) (Kd.R_lower RBq2.out (Nat.le_trans BSq1.out.sz BAq2.out.size)) Sa2.out (by have := La2.out; omega) (by have := LN.out; first | omega | (simp only [List.length_append, List.length_cons, List.length_nil]; omega))).mono ?_); rintro e wkq2 ⟨rfl, mq2, hbs, hf⟩; have BSq2 := Aside0.mk hbs; have FKq2 := Aside0.mk (FBq2.out.trans hf); clear hbs hf))
        clear RAq2 BAq2 FAq2 RBq2 BBq2 FBq2
        go_wp2_with (fail)
        go_roundw
        case rel => exact ⟨i + 1, _, _, _, by go_num, rfl, by omega, by have := HOL.out; simp only [List.length_append, List.length_cons, List.length_nil]; omega, BSq2, FKq2⟩
        case measure => simp [intOf]; omega
    · obtain rfl : i = 3 := by omega
      have B6_ : Aside0 (Below w.heap.size w wr) := ⟨F5.out.1.trans HFR.out.1⟩
      have HLW := HLC.out wr HFR.out
      have hst := still_call wr ga Ar A cr c l (by have h := HLW.C1 B6_.out HLM.out (by omega); rw [withF_self] at h; exact h) (HLW.CM B6_.out HLM.out (by omega)).2.2 (HLW.CM B6_.out HLM.out (by omega)).2.1 (Kd.C_below HR.out B6_.out) HC.out HM.out
      have HST := Aside0.mk hst
      have HLR := Aside0.mk HLW
      clear hst HLW
      go_upto_region 19 with (go_at_call 16; refine HST.out.mono ?_; rintro e w6 ⟨rfl, hb⟩; have BS6 := Aside0.mk (HBR.out.below hb); have HL6 := Aside0.mk (HLR.out.below hb); have B6 := Aside0.mk (below_then B6_.out B6_.out.size hb); clear hb)
      clear HST HLR HBR B6_ HIN HLC HFR HL
      go_wp2_with (fail)
      go_loopw [17, 18] (fun v17 _ wr => ∃ i : Nat, v17 = .int .i64 i ∧ i ≤ l.length ∧ Aside0 (Lent w wr w4.heap.size l (FF l i 0) gs ga tail38 (.slice Ar l.length cr)) ∧ Aside0 (Fo 43 w.heap.size w6 wr)) (fun v17 _ _ => l.length - (intOf v17).toNat)
      case atStart => exact ⟨0, rfl, by omega, ⟨by rw [FF_start]; exact HL6.out⟩, ⟨Fo.refl _ _ _⟩⟩
      case round =>
        obtain ⟨i, rfl, hi, HLO, HFO⟩ := hrel
        by_cases hlt2 : i < l.length
        · obtain ⟨ad, A1, c1, rfl, _, x1, hl1, _⟩ := at_T38 HR.out (i : Int) (by omega) (by omega)
          have hel : rd_T38 l i = l[i] := by simp [rd_T38, List.getElem?_eq_getElem hlt2]
          have hli : l[i]? = some l[i] := List.getElem?_eq_getElem hlt2
          obtain ⟨x, hx⟩ : ∃ x, x = l[i] := ⟨_, rfl⟩
          have hxm := HLN.out l[i] (List.getElem_mem hlt2)
          rw [hel, Int.toNat_natCast, ← hx] at x1
          rw [hel, ← hx] at hl1
          rw [← hx] at hli hxm
          obtain ⟨id, xs⟩ := x
          dsimp only at x1 hl1 hxm
          have X1 := Aside0.mk x1
          have HLI := Aside0.mk hli
          obtain ⟨g, hg⟩ : ∃ g, gs[i]? = some g := ⟨_, List.getElem?_eq_getElem (by rw [HLO.out.len]; exact hlt2)⟩
          have HG := Aside0.mk hg
          obtain ⟨go, rfl, _⟩ := HLO.out.slot hg hli
          have hfl : (FL l i).length = xs.length := by rw [FL_at hli]
          have HFL := Aside0.mk hfl
          have HGB : Aside0 (w.heap.size ≤ g) := ⟨Nat.le_trans ZX.out (HLO.out.lows g (List.mem_of_getElem? hg))⟩
          clear x1 hli hx hel hg hfl
          go_wp2_with (fail)
          go_loopw [18] (fun v18 wr => ∃ k : Nat, v18 = .int .i64 k ∧ k ≤ xs.length ∧ Aside0 (Lent w wr w4.heap.size l (FF l i k) gs ga tail38 (.slice (some ⟨go, 0, none⟩) l.length cr)) ∧ Aside0 (Fo 43 w.heap.size w6 wr)) (fun v18 _ => xs.length - (intOf v18).toNat)
          case atStart => exact ⟨0, rfl, by omega, HLO, HFO⟩
          case round =>
            clear HLO HFO
            obtain ⟨k, rfl, hk, HLO, HFO⟩ := hrel
            obtain ⟨wo, rfl⟩ : ∃ wo : World, wo = wr := ⟨_, rfl⟩
            have y1 := pw_cell_below (B6.out.trans HFO.out.1) X1.out
            by_cases hkn : k < xs.length
            · obtain ⟨b, hb⟩ : ∃ b, xs[k]? = some b := ⟨_, List.getElem?_eq_getElem hkn⟩
              obtain ⟨go2, e2, y2⟩ := HLO.out.slot HG.out HLI.out
              injection e2 with e2
              injection e2 with e2
              subst e2
              have hA := HLO.out.arms i g HG.out
              have y3 := arm_cell hA (k := k) (a := b) (by
                unfold FF
                rw [if_neg (by omega), if_pos rfl, FL_at HLI.out]
                have := flK_of xs k k b hb
                rwa [if_neg (by omega)] at this)
              have y4 := arm_frozen hA (k * 5 + 1)
              have HBK := Aside0.mk hb
              have HAB := Aside0.mk hA
              dsimp only at y2
              clear hb hA
              go_upto_region 25 with (fail)
              go_region
              obtain ⟨W7, hW7⟩ : ∃ W7, W7 = (wo.setCell ⟨g, k * 5 + 1, none⟩ (.bool (!b.f1))).drew := ⟨_, rfl⟩
              rw [← hW7]
              have HLN2 : Aside0 (Lent w W7 w4.heap.size l (FF l i (k + 1)) gs ga tail38 (.slice (some ⟨go, 0, none⟩) l.length cr)) := ⟨by rw [hW7]; exact (HLO.out.flip HG.out HLI.out HBK.out).below (below_drew (Below.refl _ _))⟩
              have HFN2 : Aside0 (Fo 43 w.heap.size w6 W7) := ⟨by
                rw [hW7]
                exact HFO.out.trans ⟨below_drew (below_setG (Below.refl _ _) HGB.out _ _), fun t ht => (arm_kt HAB.out ht _ _).trans (KT.below (below_drew (Below.refl _ _)))⟩⟩
              clear hW7 y1 y2 y3 y4
              go_wp2_with (fail)
              go_roundw
              case rel => exact ⟨k + 1, by go_num, by omega, HLN2, HFN2⟩
              case measure => simp [intOf]; omega
            · obtain rfl : k = xs.length := by omega
              have hnx := FF_next l i HFL.out
              have HNX := Aside0.mk hnx
              clear hnx
              go_wp2_with (fail)
              go_roundw
              case rel => exact ⟨i + 1, by go_num, by omega, ⟨by rw [← HNX.out]; exact HLO.out⟩, HFO⟩
              case measure => simp [intOf]; omega
        · obtain rfl : i = l.length := by omega
          obtain ⟨w7, rfl⟩ : ∃ w7 : World, w7 = wr := ⟨_, rfl⟩
          have BS7 := Aside0.mk (BS6.out.fo HFO.out (by decide) (by decide) (by decide))
          have B7 : Aside0 (Below w.heap.size w w7) := ⟨B6.out.trans HFO.out.1⟩
          have ZZ7 : Aside0 (w.heap.size ≤ w7.heap.size) := ⟨B7.out.size⟩
          have F7 : Aside0 (Fr w.heap.size w7 w7) := ⟨Fr.refl _ _⟩
          have HIN2 : Aside0 (∀ W, Fr w.heap.size w7 W → Kd.C k38 W (some ⟨ga, 0, none⟩) (l.map flipW).length (l.map flipW)) := ⟨fun W hF => by
            have h := (HLO.out.kt (w1 := W) (hF.2 38 (by decide) (by decide)) (hF.2 36 (by decide) (by decide)) (hF.2 43 (by decide) (by decide))).C (B7.out.trans hF.1) HLM.out (by omega)
            rw [withF_flip] at h
            exact h⟩
          have HM7 : Aside0 ((l.map flipW).length + arms (l.map flipW) ≤ 4000) := ⟨by rw [HAL.out, HAL2.out]; exact HM.out⟩
          clear HLO HFO hlt2 BS6 HL6
          have Cj0 : Aside0 (∀ W, Fr w.heap.size w7 W → Calls Try.prog 10 #[.slice (some ⟨ga, 0, none⟩) l.length (l.length + 1)] W fun e w' => ∃ v0_ : Value, e = .returned v0_ ∧ Kd.R k47 47 w' W.heap.size (fun _ => True) v0_ f0 ∧ Below W.heap.size W w') := ⟨fun W hF => (both_Pairs W (some ⟨ga, 0, none⟩) l.length (l.length + 1) (l.map flipW) _ Hf0.out HAL2.out HM7.out (HIN2.out W hF) (Nat.le_succ _)).1⟩
          have Dj0 : Aside0 (∀ W, Fr w.heap.size w7 W → Calls Try.prog 11 #[.slice (some ⟨ga, 0, none⟩) l.length (l.length + 1)] W fun e w' => ∃ v0_ : Value, e = .returned v0_ ∧ Kd.R k47 47 w' W.heap.size (fun _ => True) v0_ f0 ∧ Below W.heap.size W w') := ⟨fun W hF => (both_Pairs W (some ⟨ga, 0, none⟩) l.length (l.length + 1) (l.map flipW) _ Hf0.out HAL2.out HM7.out (HIN2.out W hF) (Nat.le_succ _)).2⟩
          have Cj1 : Aside0 (∀ W, Fr w.heap.size w7 W → Calls Try.prog 12 #[.slice (some ⟨ga, 0, none⟩) l.length (l.length + 1)] W fun e w' => ∃ v0_ : Value, e = .returned v0_ ∧ Kd.R k47 47 w' W.heap.size (fun _ => True) v0_ f1 ∧ Below W.heap.size W w') := ⟨fun W hF => (both_Ins W (some ⟨ga, 0, none⟩) l.length (l.length + 1) (l.map flipW) _ Hf1.out HAL2.out HM7.out (HIN2.out W hF) (Nat.le_succ _)).1⟩
          have Dj1 : Aside0 (∀ W, Fr w.heap.size w7 W → Calls Try.prog 13 #[.slice (some ⟨ga, 0, none⟩) l.length (l.length + 1)] W fun e w' => ∃ v0_ : Value, e = .returned v0_ ∧ Kd.R k47 47 w' W.heap.size (fun _ => True) v0_ f1 ∧ Below W.heap.size W w') := ⟨fun W hF => (both_Ins W (some ⟨ga, 0, none⟩) l.length (l.length + 1) (l.map flipW) _ Hf1.out HAL2.out HM7.out (HIN2.out W hF) (Nat.le_succ _)).2⟩
          have Cj2 : Aside0 (∀ W, Fr w.heap.size w7 W → Calls Try.prog 14 #[.slice (some ⟨ga, 0, none⟩) l.length (l.length + 1)] W fun e w' => ∃ v0_ : Value, e = .returned v0_ ∧ Kd.R k47 47 w' W.heap.size (fun _ => True) v0_ f2 ∧ Below W.heap.size W w') := ⟨fun W hF => (both_Outs W (some ⟨ga, 0, none⟩) l.length (l.length + 1) (l.map flipW) _ Hf2.out HAL2.out HM7.out (HIN2.out W hF) (Nat.le_succ _)).1⟩
          have Dj2 : Aside0 (∀ W, Fr w.heap.size w7 W → Calls Try.prog 15 #[.slice (some ⟨ga, 0, none⟩) l.length (l.length + 1)] W fun e w' => ∃ v0_ : Value, e = .returned v0_ ∧ Kd.R k47 47 w' W.heap.size (fun _ => True) v0_ f2 ∧ Below W.heap.size W w') := ⟨fun W hF => (both_Outs W (some ⟨ga, 0, none⟩) l.length (l.length + 1) (l.map flipW) _ Hf2.out HAL2.out HM7.out (HIN2.out W hF) (Nat.le_succ _)).2⟩
          go_upto_region 27 with (first
            | (go_at_call 10; refine (Cj0.out _ F7.out).mono ?_; rintro e waz0 ⟨va, rfl, hR, hb⟩; obtain ⟨Aaz0, caz0, rfl⟩ := Kd.R_slice hR; have RAz0 := Aside0.mk hR; have BAz0 := Aside0.mk hb; have FAz0 := Aside0.mk (F7.out.then_ ZZ7.out hb); clear hR hb)
            | (go_at_call 11; refine (Dj0.out _ FAz0.out).mono ?_; rintro e wbz0 ⟨vb, rfl, hR, hb⟩; obtain ⟨Abz0, cbz0, rfl⟩ := Kd.R_slice hR; have RBz0 := Aside0.mk hR; have BBz0 := Aside0.mk hb; have FBz0 := Aside0.mk (FAz0.out.then_ ZZ7.out hb); clear hR hb)
            | (go_at_call 9; go_loud (refine (keep_bs gh w.heap.size Aaz0 Abz0 caz0 cbz0 f0 ol wl cs w7 wbz0 BS7.out (below_then BAz0.out BAz0.out.size BBz0.out) (Kd.R_below RAz0.out BBz0.out) (Kd.R_lower RBz0.out (Nat.le_trans BS7.out.sz BAz0.out.size)) Sf0.out (by have := Lf0.out; omega) (by have := LN.out; first | omega | (simp only [List.length_append, List.length_cons, List.length_nil]; omega))).mono ?_); rintro e wkz0 ⟨rfl, mz0, hbs, hf⟩; have BSz0 := Aside0.mk hbs; have FKz0 := Aside0.mk (FBz0.out.trans hf); clear hbs hf))
          clear RAz0 BAz0 FAz0 RBz0 BBz0 FBz0
          go_upto_region 28 with (first
            | (go_at_call 12; refine (Cj1.out _ FKz0.out).mono ?_; rintro e waz1 ⟨va, rfl, hR, hb⟩; obtain ⟨Aaz1, caz1, rfl⟩ := Kd.R_slice hR; have RAz1 := Aside0.mk hR; have BAz1 := Aside0.mk hb; have FAz1 := Aside0.mk (FKz0.out.then_ ZZ7.out hb); clear hR hb)
            | (go_at_call 13; refine (Dj1.out _ FAz1.out).mono ?_; rintro e wbz1 ⟨vb, rfl, hR, hb⟩; obtain ⟨Abz1, cbz1, rfl⟩ := Kd.R_slice hR; have RBz1 := Aside0.mk hR; have BBz1 := Aside0.mk hb; have FBz1 := Aside0.mk (FAz1.out.then_ ZZ7.out hb); clear hR hb)
            | (go_at_call 9; go_loud (refine (keep_bs gh w.heap.size Aaz1 Abz1 caz1 cbz1 f1 (ol ++ [.slice Aaz0 f0.length caz0]) (wl ++ [mz0]) (cs ++ [f0]) wkz0 wbz1 BSz0.out (below_then BAz1.out BAz1.out.size BBz1.out) (Kd.R_below RAz1.out BBz1.out) (Kd.R_lower RBz1.out (Nat.le_trans BSz0.out.sz BAz1.out.size)) Sf1.out (by have := Lf1.out; omega) (by have := LN.out; first | omega | (simp only [List.length_append, List.length_cons, List.length_nil]; omega))).mono ?_); rintro e wkz1 ⟨rfl, mz1, hbs, hf⟩; have BSz1 := Aside0.mk hbs; have FKz1 := Aside0.mk (FBz1.out.trans hf); clear hbs hf))
          clear RAz1 BAz1 FAz1 RBz1 BBz1 FBz1
          go_upto_region 29 with (first
            | (go_at_call 14; refine (Cj2.out _ FKz1.out).mono ?_; rintro e waz2 ⟨va, rfl, hR, hb⟩; obtain ⟨Aaz2, caz2, rfl⟩ := Kd.R_slice hR; have RAz2 := Aside0.mk hR; have BAz2 := Aside0.mk hb; have FAz2 := Aside0.mk (FKz1.out.then_ ZZ7.out hb); clear hR hb)
            | (go_at_call 15; refine (Dj2.out _ FAz2.out).mono ?_; rintro e wbz2 ⟨vb, rfl, hR, hb⟩; obtain ⟨Abz2, cbz2, rfl⟩ := Kd.R_slice hR; have RBz2 := Aside0.mk hR; have BBz2 := Aside0.mk hb; have FBz2 := Aside0.mk (FAz2.out.then_ ZZ7.out hb); clear hR hb)
            | (go_at_call 9; go_loud (refine (keep_bs gh w.heap.size Aaz2 Abz2 caz2 cbz2 f2 ((ol ++ [.slice Aaz0 f0.length caz0]) ++ [.slice Aaz1 f1.length caz1]) ((wl ++ [mz0]) ++ [mz1]) ((cs ++ [f0]) ++ [f1]) wkz1 wbz2 BSz1.out (below_then BAz2.out BAz2.out.size BBz2.out) (Kd.R_below RAz2.out BBz2.out) (Kd.R_lower RBz2.out (Nat.le_trans BSz1.out.sz BAz2.out.size)) Sf2.out (by have := Lf2.out; omega) (by have := LN.out; first | omega | (simp only [List.length_append, List.length_cons, List.length_nil]; omega))).mono ?_); rintro e wkz2 ⟨rfl, mz2, hbs, hf⟩; have BSz2 := Aside0.mk hbs; have FKz2 := Aside0.mk (FBz2.out.trans hf); clear hbs hf))
          clear RAz2 BAz2 FAz2 RBz2 BBz2 FBz2
          go_upto_region 30 with (go_at_call 17; go_loud (refine (spoil_bs gh w.heap.size (((ol ++ [.slice Aaz0 f0.length caz0]) ++ [.slice Aaz1 f1.length caz1]) ++ [.slice Aaz2 f2.length caz2]) (((wl ++ [mz0]) ++ [mz1]) ++ [mz2]) (((cs ++ [f0]) ++ [f1]) ++ [f2]) _ BSz2.out (fun xs h => sameP_self xs (by omega)) (by have := LN.out; simp only [List.length_append, List.length_cons, List.length_nil]; omega)).mono ?_); rintro e w8 ⟨rfl, hb⟩; have B8 := Aside0.mk (B7.out.trans (FKz2.out.1.trans hb)); clear hb)
          go_wp2_with (fail)
          go_returns
          exact ⟨rfl, B8.out⟩
theorem tells_walk (A : Option Addr) (c : Nat) (l : List S38) (B : Option Addr) (d : Nat) (l2 : List S38) (w : World) (hr : Kd.C k38 w A l.length l) (hc : l.length ≤ c) (hr2 : Kd.C k38 w B l2.length l2) (hc2 : l2.length ≤ d) (h1 : wfWs l) (h2 : wfWs l2) :
    Calls Try.prog 3 #[.slice A l.length c, .slice B l2.length d] w fun e w' => e = .returned (.bool true) ∧ Below w.heap.size w w' := by
  obtain ⟨b1, k1, e1, g1⟩ := beyond_says l (wfWs_len h1).1 (wfWs_len h1).2
  obtain ⟨b2, k2, e2, g2⟩ := beyond_says l2 (wfWs_len h2).1 (wfWs_len h2).2
  cases b1 with
  | true => exact tells_far A c l B d l2 w hr hc hr2 hc2 true b2 k1 k2 e1 e2 (.inl rfl)
  | false =>
    cases b2 with
    | true => exact tells_far A c l B d l2 w hr hc hr2 hc2 false true k1 k2 e1 e2 (.inr ⟨rfl, rfl⟩)
    | false => exact tells_near A c l B d l2 w hr hc hr2 hc2 k1 k2 e1 e2 (g1 rfl) (g2 rfl)
end Go.Proofs.Ytokbonceeglciaa.Bk
end
section
namespace Go.Proofs.YtokbonceeglciaaW.PrintWords
open Go.ChangeShapes Go.WideShapes
end Go.Proofs.YtokbonceeglciaaW.PrintWords
end
