/- trace.one: an event's line, read. -/
import Derived.Test.YtiapfhlipoomaaaDoorGivenI
import Derived.StillTailTactics
import Derived.Laws.CopyOwn
namespace Go.Proofs.YtiapfhlipoomaaaDoor.Given
open Go.RowKit Go.Proofs.YtiapfhlipoomaaaDoorW.PrintWords Go.Proofs.YtiapfhlipoomaaaDoorW.PrintLast Go.Proofs.YtiapfhlipoomaaaDoorW.PrintMore Go.Proofs.YtiapfhlipoomaaaDoor.Print
set_option linter.unusedVariables false
set_option linter.unusedSimpArgs false

/-- The kind that a word is, from one on. -/
def kindFrom (t : ByteArray) : Nat → Nat → Option Nat
  | 0, _ => none
  | m + 1, k => if (wordB k).toList = t.toList then some k else kindFrom t m (k + 1)
def kindOf (t : ByteArray) : Option Nat := kindFrom t 11 1
/-- The event of a line. -/
def oneOf (s : ByteArray) : Option S24 := (kindOf ((wordsL s).headD ⟨#[]⟩)).bind fun k => fillOf k (wordsL s).tail
/-- What one answers. -/
def OneSays (w : World) (r : Option S24) (e : Ending) (w' : World) : Prop := match r with
  | some x => ∃ A c, e = .returned (.tuple #[.agg (evC x (.slice A x.f7.length c)), .bool true]) ∧ Kd.R (Kd.int .i64) 3 w' w.heap.size (fun k => w.heap.size ≤ k) (.slice A x.f7.length c) x.f7 ∧ Below w.heap.size w w'
  | none => (∃ x A n c, e = .returned (.tuple #[.agg (evC x (.slice A n c)), .bool false])) ∧ Below w.heap.size w w'
theorem kind_step (t : ByteArray) (k : Nat) (hk : 1 ≤ k) (h11 : k ≤ 11) (h : kindOf t = kindFrom t (12 - k) k) : kindOf t = if (wordB k).toList = t.toList then some k else kindFrom t (12 - (k + 1)) (k + 1) := by
  rw [h, show 12 - k = (12 - (k + 1)) + 1 by omega, kindFrom]
theorem R_setRow {α : Type} {d : Kd α} {e base g t : Nat} {ok : Nat → Prop} {w : World} {v : Value} {xs : List α} {cs cs' : Array Value} (h : d.R e w base ok v xs) (hb : w.heap[g]? = some (.cells cs t (0, 0))) (ht : ∀ q, q ∈ e :: d.E → q ≠ t) : d.R e (w.setRow g cs') base (fun k => ok k ∧ k ≠ g) v xs :=
  Kd.R_step (Kd.R_types h hb ht) (fun k hk _ => setRow_other _ _ _ _ hk.2)
set_option maxRecDepth 100000 in
set_option maxHeartbeats 16000000 in
theorem one_any (s : ByteArray) (w : World) (hL : LW w) (hs : s.size < 4294967281) : Calls Tryd.prog 37 #[.string s] w (OneSays w (oneOf s)) := by
  have hu24 := Tryd.underlying24
  have hu48 := Tryd.underlying48
  have HL := Aside0.mk hL
  obtain ⟨n, hn⟩ : ∃ n : Nat, Lib.countB s space = n := ⟨_, rfl⟩
  have HN := Aside0.mk hn
  have hwl := words_length s n hn
  have hcl := count_le s
  rw [hn] at hcl
  obtain ⟨hd, tl, hws⟩ : ∃ hd tl, wordsL s = hd :: tl := by cases h : wordsL s with | nil => rw [h] at hwl; cases hwl | cons a b => exact ⟨a, b, rfl⟩
  have hsz : ∀ t ∈ tl, t.size ≤ 281474976710656 := fun t ht => Nat.le_trans (word_size s t (by rw [hws]; exact List.mem_cons_of_mem _ ht)) (by omega)
  rw [hws] at hwl
  have htl : tl.length = n := by simpa using hwl
  subst htl
  have HSZ := Aside0.mk hsz
  have HWS := Aside0.mk hws
  have HCL0 := Aside0.mk (show tl.length ≤ 4294967296 by omega)
  have HONE : Aside0 (oneOf s = (kindOf hd).bind fun k => fillOf k tl) := ⟨by unfold oneOf; rw [hws]; rfl⟩
  clear hL hn hwl hcl hws hsz
  go_enter Tryd.func37, Tryd.ntmps37
  go_wp2_with (go_at_call 48; refine (split_any s tl.length HN.out _ hs (HL.out.below (bel1 w _))).mono ?_; rintro e w1 ⟨rfl, hbk, hb⟩; have BR := Aside0.mk (blk_below (heap_alloc_new w (.cells (evC ⟨0, 0, 0, 0, 0, 0, 0, []⟩ (.slice none 0 0)) 24)) hb); have BS := Aside0.mk hbk; have HB := Aside0.mk ((bel1 w (.cells (evC ⟨0, 0, 0, 0, 0, 0, 0, []⟩ (.slice none 0 0)) 24)).trans (hb.mono (by rw [size_alloc]; omega))); clear hbk hb)
  rw [HWS.out] at BS
  rw [size_alloc] at BS
  have hsz1 := Aside0.mk (blk_lt BS.out)
  go_loopw [5] (fun v5 wr => ∃ k : Nat, v5 = .int .i64 k ∧ 1 ≤ k ∧ k ≤ 12 ∧ Aside0 (kindOf hd = kindFrom hd (12 - k) k) ∧ Aside0 (Below w1.heap.size w1 wr)) (fun v5 _ => 12 - (intOf v5).toNat)
  case atStart => exact ⟨1, rfl, by omega, by omega, ⟨rfl⟩, ⟨Below.refl _ _⟩⟩
  case round =>
    obtain ⟨k, rfl, hk1, hk2, HK, HB1⟩ := hrel
    obtain ⟨wo, rfl⟩ : ∃ wo : World, wo = wr := ⟨_, rfl⟩
    by_cases hlt : k ≤ 11
    · have HKS := Aside0.mk (kind_step hd k hk1 hlt HK.out)
      have K1 := Aside0.mk hk1
      have K2 := Aside0.mk hlt
      have SB := Aside0.mk (blk_below BS.out HB1.out)
      have RB := Aside0.mk (blk_below BR.out HB1.out)
      have GR := Aside0.mk (blk_lt RB.out)
      have GS := Aside0.mk (blk_lt SB.out)
      have hwn : ((k : Int) ≤ 11) := by omega
      rcases cls_of k with hcl | hcl | hcl
      · have HCL := Aside0.mk hcl
        clear hcl
        by_cases he : (wordB k).toList = hd.toList
        · have he1 : ((wordB k).toList == hd.toList) = true := beq_iff_eq.2 he
          have HOF : Aside0 (oneOf s = fillOf k tl) := ⟨by rw [HONE.out, HKS.out, if_pos he]; rfl⟩
          clear he
          have hsl0 := words_tail (w := wo) (g := wo.heap.size) (A := some ⟨w.heap.size + 1, 0, none⟩) (t := hd) (r := tl) ⟨fun ad h => by injection h with h; rw [← h]; exact Nat.ne_of_lt GS.out, fun j t hj => ⟨_, rfl, by rw [show (⟨w.heap.size + 1, 0, none⟩ : Addr).add j = ⟨w.heap.size + 1, j, none⟩ by simp [Addr.add]; exact Eq.symm, blk_cell SB.out j, List.getElem?_toArray, List.getElem?_map, hj]; rfl⟩⟩ (tl.length + 1) (Nat.le_refl _)
          obtain ⟨A1, hsl, hw1⟩ := hsl0
          have WS := Aside0.mk hw1
          clear hw1
          go_upto_region 7 with (go_at_call 23; refine (form_c0 k K1.out K2.out HCL.out wo.heap.size (⟨k, 0, 0, 0, 0, 0, 0, []⟩ : S24) (.slice none 0 0) _ rfl (heap_alloc_new _ _)).mono ?_; rintro e w2 ⟨_, rfl, ⟨AF, rfl, hF⟩, hb⟩; have BE := Aside0.mk (blk_below (heap_alloc_new wo (.cells (evC (⟨k, 0, 0, 0, 0, 0, 0, []⟩ : S24) (.slice none 0 0)) 24)) hb); have FF := Aside0.mk hF; have HE := Aside0.mk ((bel1 wo (.cells (evC (⟨k, 0, 0, 0, 0, 0, 0, []⟩ : S24) (.slice none 0 0)) 24)).trans (hb.mono (by rw [size_alloc]; omega))); clear hF hb)
          have BF := Aside0.mk (heap_alloc_new w2 (.cells #[.string (wordB k), .slice AF (foK k).length (foK k).length, .pointer none, .slice none 0 0, .pointer none, .bool (liK k)] 48))
          have BE2 := Aside0.mk (blk_below BE.out (bel1 w2 (.cells #[.string (wordB k), .slice AF (foK k).length (foK k).length, .pointer none, .slice none 0 0, .pointer none, .bool (liK k)] 48)))
          have FF2 := Aside0.mk (fun j o hj => by obtain ⟨ad, e1, e2, e3⟩ := FF.out j o hj; exact ⟨ad, e1, e2, pw_cell_below (bel1 w2 (.cells #[.string (wordB k), .slice AF (foK k).length (foK k).length, .pointer none, .slice none 0 0, .pointer none, .bool (liK k)] 48)) e3⟩ : ∀ (j o : Nat), (foK k)[j]? = some o → ∃ ad, AF = some ad ∧ ad.block ≠ wo.heap.size ∧ (w2.alloc (.cells #[.string (wordB k), .slice AF (foK k).length (foK k).length, .pointer none, .slice none 0 0, .pointer none, .bool (liK k)] 48)).cell? (ad.add j) = some (.pointer (some ⟨wo.heap.size, o, none⟩)))
          have HE2 := Aside0.mk (HE.out.trans ((bel1 w2 (.cells #[.string (wordB k), .slice AF (foK k).length (foK k).length, .pointer none, .slice none 0 0, .pointer none, .bool (liK k)] 48)).mono HE.out.size))
          clear BE FF HE
          generalize w2.heap.size = g7 at BF ⊢
          generalize w2.alloc (.cells #[.string (wordB k), .slice AF (foK k).length (foK k).length, .pointer none, .slice none 0 0, .pointer none, .bool (liK k)] 48) = wz at *
          have BE := BE2
          have FF := FF2
          have HE := HE2
          clear BE2 FF2 HE2
          have WZ := Aside0.mk (WS.out.below HE.out)
          have y0 : wz.cell? ⟨g7, 0, none⟩ = some (.string (wordB k)) := (blk_cell BF.out 0).trans rfl
          have s0 : wz.cell? ⟨w.heap.size + 1, 0, none⟩ = some (.string hd) := (blk_cell (blk_below SB.out HE.out) 0).trans rfl
          go_quiet (fail)
          all_goals go_wp2_with (fail)
          obtain ⟨wy, hwy⟩ : ∃ wy, wy = wz.drewN nq := ⟨_, rfl⟩
          rw [← hwy]
          have hY : Below wz.heap.size wz wy := by rw [hwy]; exact pw_below_drewN (Below.refl _ _) _
          have BE3 := Aside0.mk (blk_below BE.out hY)
          have BF3 := Aside0.mk (blk_below BF.out hY)
          have WZ3 := Aside0.mk (WZ.out.below hY)
          have HE3 := Aside0.mk (HE.out.trans (hY.mono HE.out.size))
          have FF3 := Aside0.mk (fun j o hj => by obtain ⟨ad, e1, e2, e3⟩ := FF.out j o hj; exact ⟨ad, e1, e2, pw_cell_below hY e3⟩ : ∀ (j o : Nat), (foK k)[j]? = some o → ∃ ad, AF = some ad ∧ ad.block ≠ wo.heap.size ∧ wy.cell? (ad.add j) = some (.pointer (some ⟨wo.heap.size, o, none⟩)))
          clear y0 s0 BE BF WZ HE FF hwy hY
          have BE := BE3
          have BF := BF3
          have WZ := WZ3
          have HE := HE3
          have FF := FF3
          clear BE3 BF3 WZ3 HE3 FF3
          have HBZ0 : Aside0 (Below w.heap.size w wy) := ⟨HB.out.trans ((below_then HB1.out HB1.out.size HE.out).mono HB.out.size)⟩
          have HBZ : Aside0 (∀ q, Below w.heap.size w (wy.drewN q)) := ⟨fun q => pw_below_drewN HBZ0.out q⟩
          have GB : Aside0 (w.heap.size ≤ wo.heap.size) := ⟨Nat.le_trans HB.out.size HB1.out.size⟩
          have y0 : wy.cell? ⟨g7, 0, none⟩ = some (.string (wordB k)) := (blk_cell BF.out 0).trans rfl
          have y1 : wy.cell? ⟨g7, 1, none⟩ = some (.slice AF (foK k).length (foK k).length) := (blk_cell BF.out 1).trans rfl
          have y2 : wy.cell? ⟨g7, 2, none⟩ = some (.pointer none) := (blk_cell BF.out 2).trans rfl
          have y3 : wy.cell? ⟨g7, 3, none⟩ = some (.slice none 0 0) := (blk_cell BF.out 3).trans rfl
          have y4 : wy.cell? ⟨g7, 4, none⟩ = some (.pointer none) := (blk_cell BF.out 4).trans rfl
          have y5 : wy.cell? ⟨g7, 5, none⟩ = some (.bool (liK k)) := (blk_cell BF.out 5).trans rfl
          cases hfo : fillOf k tl with
          | some x =>
            have HFO := Aside0.mk hfo
            have HOS : Aside0 (oneOf s = some x) := ⟨by rw [HOF.out, HFO.out]⟩
            clear hfo
            go_cut [9] (fun v9 wc => v9 = .bool true ∧ Aside0 (∃ u, wc.heap[wo.heap.size]? = some (.cells (evC x u) 24 (0, 0)) ∧ Kd.R (Kd.int .i64) 3 wc wy.heap.size (fun k => wy.heap.size ≤ k) u x.f7) ∧ Aside0 (Fr wy.heap.size wo.heap.size wy wc))
            case first =>
              go_still_tail 3, (by kernel_rfl)
              change wpList _ _ _ _ _ (World.drew wy)
              have HD := Aside0.mk (show Below wy.heap.size wy wy.drew from below_drew (Below.refl _ _))
              have BE4 : Aside0 (wy.drew.heap[wo.heap.size]? = some (.cells (evC ⟨k, 0, 0, 0, 0, 0, 0, []⟩ (.slice none 0 0)) 24 (0, 0))) := ⟨BE.out⟩
              have FF4 : Aside0 (∀ (j o : Nat), (foK k)[j]? = some o → ∃ ad, AF = some ad ∧ ad.block ≠ wo.heap.size ∧ wy.drew.cell? (ad.add j) = some (.pointer (some ⟨wo.heap.size, o, none⟩))) := ⟨FF.out⟩
              have WZ4 : Aside0 (WordsIn wy.drew wo.heap.size A1 tl) := ⟨WZ.out⟩
              have HBZ4 : Aside0 (Below w.heap.size w wy.drew) := ⟨below_drew HBZ0.out⟩
              generalize wy.drew = wd at HD BE4 FF4 WZ4 HBZ4 ⊢
              go_wp2_with (go_at_call 49; refine (fill_c0 k K1.out K2.out HCL.out wo.heap.size AF A1 tl.length tl _ w HL.out HBZ4.out GB.out BE4.out FF4.out WZ4.out (Nat.le_refl _) HCL0.out HSZ.out).mono ?_; rw [HFO.out]; rintro e w5 ⟨rfl, ⟨u5, h5, hr5⟩, hf5⟩; have BK5 := Aside0.mk h5; have HR5 := Aside0.mk hr5; have FR5 := Aside0.mk ((Fr.of_below HD.out).trans (hf5.mono HD.out.size)); clear h5 hr5 hf5)
              all_goals go_wp2_with (fail)
              all_goals go_meet
              all_goals exact ⟨rfl, ⟨⟨_, BK5.out, Kd.R_mono (Kd.R_lower HR5.out HD.out.size) (fun k hk => Nat.le_trans HD.out.size hk)⟩⟩, FR5⟩
            case rest =>
              obtain ⟨rfl, ⟨u, hbk, hR⟩, FR⟩ := hcut
              obtain ⟨Au, cu, rfl⟩ := Kd.R_slice hR
              have HR := Aside0.mk hR
              clear hR
              have BK := Aside0.mk hbk
              have RB2 := Aside0.mk (FR.out.blk (blk_below RB.out HE.out) (Nat.le_refl _) (Nat.ne_of_lt GR.out))
              have HBC : Aside0 (Below w.heap.size w wc) := ⟨HBZ0.out.trans (FR.out.below HBZ0.out.size GB.out)⟩
              clear hbk
              go_wp2_with (first
                | (refine wpList_load_row rfl 24 (.tmp 6) rfl wo.heap.size rfl 24 (evC x (.slice Au x.f7.length cu)) (0, 0) _ BK.out Tryd.underlying24 rfl (by kernel_rfl) ?_)
                | (refine wpList_store_row rfl 24 (.tmp 2) (.tmp 32) rfl w.heap.size (evC x (.slice Au x.f7.length cu)) rfl rfl 24 _ RB2.out (by kernel_rfl) rfl (by kernel_rfl) ?_; have n9_ : Aside0 ((wc.setRow w.heap.size (evC x (.slice Au x.f7.length cu))).heap[w.heap.size]? = some (.cells (evC x (.slice Au x.f7.length cu)) 24 (0, 0))) := ⟨setRow_heap _ _ _ _ _ _ RB2.out⟩; have n8_ := Aside0.mk (below_setRow HBC.out (Nat.le_refl _) (evC x (.slice Au x.f7.length cu))); have n7_ := Aside0.mk (R_setRow HR.out RB2.out (by decide) (cs' := evC x (.slice Au x.f7.length cu))); generalize wc.setRow w.heap.size (evC x (.slice Au x.f7.length cu)) = wy at n9_ n8_ n7_ ⊢))
              refine bodyPost_ret (results_ct rfl _ _ w.heap.size 24 (evC x (.slice Au x.f7.length cu)) (0, 0) _ rfl n9_.out Tryd.underlying24 rfl (by kernel_rfl)) rfl ?_
              rw [HOS.out]
              exact ⟨Au, cu, rfl, Kd.R_mono (Kd.R_lower n7_.out HBZ0.out.size) (fun k hk => Nat.le_trans HBZ0.out.size hk.1), n8_.out⟩
          | none =>
            have HFO := Aside0.mk hfo
            have HOS : Aside0 (oneOf s = none) := ⟨by rw [HOF.out, HFO.out]⟩
            clear hfo
            go_cut [9] (fun v9 wc => v9 = .bool false ∧ Aside0 (∃ x A n c, wc.heap[wo.heap.size]? = some (.cells (evC x (.slice A n c)) 24 (0, 0))) ∧ Aside0 (Fr wy.heap.size wo.heap.size wy wc))
            case first =>
              go_still_tail 3, (by kernel_rfl)
              change wpList _ _ _ _ _ (World.drew wy)
              have HD := Aside0.mk (show Below wy.heap.size wy wy.drew from below_drew (Below.refl _ _))
              have BE4 : Aside0 (wy.drew.heap[wo.heap.size]? = some (.cells (evC ⟨k, 0, 0, 0, 0, 0, 0, []⟩ (.slice none 0 0)) 24 (0, 0))) := ⟨BE.out⟩
              have FF4 : Aside0 (∀ (j o : Nat), (foK k)[j]? = some o → ∃ ad, AF = some ad ∧ ad.block ≠ wo.heap.size ∧ wy.drew.cell? (ad.add j) = some (.pointer (some ⟨wo.heap.size, o, none⟩))) := ⟨FF.out⟩
              have WZ4 : Aside0 (WordsIn wy.drew wo.heap.size A1 tl) := ⟨WZ.out⟩
              have HBZ4 : Aside0 (Below w.heap.size w wy.drew) := ⟨below_drew HBZ0.out⟩
              generalize wy.drew = wd at HD BE4 FF4 WZ4 HBZ4 ⊢
              go_wp2_with (go_at_call 49; refine (fill_c0 k K1.out K2.out HCL.out wo.heap.size AF A1 tl.length tl _ w HL.out HBZ4.out GB.out BE4.out FF4.out WZ4.out (Nat.le_refl _) HCL0.out HSZ.out).mono ?_; rw [HFO.out]; rintro e w5 ⟨rfl, ⟨x5, A5, n5, c5, h5⟩, hf5⟩; have BK5 := Aside0.mk h5; have FR5 := Aside0.mk ((Fr.of_below HD.out).trans (hf5.mono HD.out.size)); clear h5 hf5)
              all_goals go_wp2_with (fail)
              all_goals go_meet
              all_goals exact ⟨rfl, ⟨⟨_, _, _, _, BK5.out⟩⟩, FR5⟩
            case rest =>
              obtain ⟨rfl, ⟨x, Au, nu, cu, hbk⟩, FR⟩ := hcut
              have BK := Aside0.mk hbk
              have RB2 := Aside0.mk (FR.out.blk (blk_below RB.out HE.out) (Nat.le_refl _) (Nat.ne_of_lt GR.out))
              have HBC : Aside0 (Below w.heap.size w wc) := ⟨HBZ0.out.trans (FR.out.below HBZ0.out.size GB.out)⟩
              clear hbk
              go_wp2_with (first
                | (refine wpList_load_row rfl 24 (.tmp 6) rfl wo.heap.size rfl 24 (evC x (.slice Au nu cu)) (0, 0) _ BK.out Tryd.underlying24 rfl (by kernel_rfl) ?_)
                | (refine wpList_store_row rfl 24 (.tmp 2) (.tmp 32) rfl w.heap.size (evC x (.slice Au nu cu)) rfl rfl 24 _ RB2.out (by kernel_rfl) rfl (by kernel_rfl) ?_; have n9_ : Aside0 ((wc.setRow w.heap.size (evC x (.slice Au nu cu))).heap[w.heap.size]? = some (.cells (evC x (.slice Au nu cu)) 24 (0, 0))) := ⟨setRow_heap _ _ _ _ _ _ RB2.out⟩; have n8_ := Aside0.mk (below_setRow HBC.out (Nat.le_refl _) (evC x (.slice Au nu cu))); generalize wc.setRow w.heap.size (evC x (.slice Au nu cu)) = wy at n9_ n8_ ⊢))
              refine bodyPost_ret (results_ct rfl _ _ w.heap.size 24 (evC x (.slice Au nu cu)) (0, 0) _ rfl n9_.out Tryd.underlying24 rfl (by kernel_rfl)) rfl ?_
              rw [HOS.out]
              exact ⟨⟨_, _, _, _, rfl⟩, n8_.out⟩
        · have he1 : ((wordB k).toList == hd.toList) = false := beq_eq_false_iff_ne.2 he
          have HKN : Aside0 (kindOf hd = kindFrom hd (12 - (k + 1)) (k + 1)) := ⟨by rw [HKS.out, if_neg he]⟩
          clear he
          go_upto_region 7 with (go_at_call 23; refine (form_c0 k K1.out K2.out HCL.out wo.heap.size (⟨k, 0, 0, 0, 0, 0, 0, []⟩ : S24) (.slice none 0 0) _ rfl (heap_alloc_new _ _)).mono ?_; rintro e w2 ⟨_, rfl, ⟨AF, rfl, hF⟩, hb⟩; have HE := Aside0.mk ((bel1 wo (.cells (evC (⟨k, 0, 0, 0, 0, 0, 0, []⟩ : S24) (.slice none 0 0)) 24)).trans (hb.mono (by rw [size_alloc]; omega))); clear hF hb)
          have BF := Aside0.mk (heap_alloc_new w2 (.cells #[.string (wordB k), .slice AF (foK k).length (foK k).length, .pointer none, .slice none 0 0, .pointer none, .bool (liK k)] 48))
          have HE2 := Aside0.mk (HE.out.trans ((bel1 w2 (.cells #[.string (wordB k), .slice AF (foK k).length (foK k).length, .pointer none, .slice none 0 0, .pointer none, .bool (liK k)] 48)).mono HE.out.size))
          generalize w2.heap.size = g7 at BF ⊢
          generalize w2.alloc (.cells #[.string (wordB k), .slice AF (foK k).length (foK k).length, .pointer none, .slice none 0 0, .pointer none, .bool (liK k)] 48) = wz at *
          have y0 : wz.cell? ⟨g7, 0, none⟩ = some (.string (wordB k)) := (blk_cell BF.out 0).trans rfl
          have s0 : wz.cell? ⟨w.heap.size + 1, 0, none⟩ = some (.string hd) := (blk_cell (blk_below SB.out HE2.out) 0).trans rfl
          go_quiet (fail)
          all_goals go_wp2_with (fail)
          all_goals go_roundw
          case rel => exact ⟨k + 1, by go_num, by omega, by omega, HKN, ⟨pw_below_drewN (below_then HB1.out HB1.out.size HE2.out) _⟩⟩
          case measure => simp [intOf]; omega
      · have HCL := Aside0.mk hcl
        clear hcl
        by_cases he : (wordB k).toList = hd.toList
        · have he1 : ((wordB k).toList == hd.toList) = true := beq_iff_eq.2 he
          have HOF : Aside0 (oneOf s = fillOf k tl) := ⟨by rw [HONE.out, HKS.out, if_pos he]; rfl⟩
          clear he
          have hsl0 := words_tail (w := wo) (g := wo.heap.size) (A := some ⟨w.heap.size + 1, 0, none⟩) (t := hd) (r := tl) ⟨fun ad h => by injection h with h; rw [← h]; exact Nat.ne_of_lt GS.out, fun j t hj => ⟨_, rfl, by rw [show (⟨w.heap.size + 1, 0, none⟩ : Addr).add j = ⟨w.heap.size + 1, j, none⟩ by simp [Addr.add]; exact Eq.symm, blk_cell SB.out j, List.getElem?_toArray, List.getElem?_map, hj]; rfl⟩⟩ (tl.length + 1) (Nat.le_refl _)
          obtain ⟨A1, hsl, hw1⟩ := hsl0
          have WS := Aside0.mk hw1
          clear hw1
          go_upto_region 7 with (go_at_call 23; refine (form_c1 k K1.out K2.out HCL.out wo.heap.size (⟨k, 0, 0, 0, 0, 0, 0, []⟩ : S24) (.slice none 0 0) _ rfl (heap_alloc_new _ _)).mono ?_; rintro e w2 ⟨_, rfl, ⟨AF, rfl, hF⟩, hb⟩; have BE := Aside0.mk (blk_below (heap_alloc_new wo (.cells (evC (⟨k, 0, 0, 0, 0, 0, 0, []⟩ : S24) (.slice none 0 0)) 24)) hb); have FF := Aside0.mk hF; have HE := Aside0.mk ((bel1 wo (.cells (evC (⟨k, 0, 0, 0, 0, 0, 0, []⟩ : S24) (.slice none 0 0)) 24)).trans (hb.mono (by rw [size_alloc]; omega))); clear hF hb)
          have BF := Aside0.mk (heap_alloc_new w2 (.cells #[.string (wordB k), .slice AF (foK k).length (foK k).length, .pointer (some ⟨wo.heap.size, 6, none⟩), .slice none 0 0, .pointer none, .bool false] 48))
          have BE2 := Aside0.mk (blk_below BE.out (bel1 w2 (.cells #[.string (wordB k), .slice AF (foK k).length (foK k).length, .pointer (some ⟨wo.heap.size, 6, none⟩), .slice none 0 0, .pointer none, .bool false] 48)))
          have FF2 := Aside0.mk (fun j o hj => by obtain ⟨ad, e1, e2, e3⟩ := FF.out j o hj; exact ⟨ad, e1, e2, pw_cell_below (bel1 w2 (.cells #[.string (wordB k), .slice AF (foK k).length (foK k).length, .pointer (some ⟨wo.heap.size, 6, none⟩), .slice none 0 0, .pointer none, .bool false] 48)) e3⟩ : ∀ (j o : Nat), (foK k)[j]? = some o → ∃ ad, AF = some ad ∧ ad.block ≠ wo.heap.size ∧ (w2.alloc (.cells #[.string (wordB k), .slice AF (foK k).length (foK k).length, .pointer (some ⟨wo.heap.size, 6, none⟩), .slice none 0 0, .pointer none, .bool false] 48)).cell? (ad.add j) = some (.pointer (some ⟨wo.heap.size, o, none⟩)))
          have HE2 := Aside0.mk (HE.out.trans ((bel1 w2 (.cells #[.string (wordB k), .slice AF (foK k).length (foK k).length, .pointer (some ⟨wo.heap.size, 6, none⟩), .slice none 0 0, .pointer none, .bool false] 48)).mono HE.out.size))
          clear BE FF HE
          generalize w2.heap.size = g7 at BF ⊢
          generalize w2.alloc (.cells #[.string (wordB k), .slice AF (foK k).length (foK k).length, .pointer (some ⟨wo.heap.size, 6, none⟩), .slice none 0 0, .pointer none, .bool false] 48) = wz at *
          have BE := BE2
          have FF := FF2
          have HE := HE2
          clear BE2 FF2 HE2
          have WZ := Aside0.mk (WS.out.below HE.out)
          have y0 : wz.cell? ⟨g7, 0, none⟩ = some (.string (wordB k)) := (blk_cell BF.out 0).trans rfl
          have s0 : wz.cell? ⟨w.heap.size + 1, 0, none⟩ = some (.string hd) := (blk_cell (blk_below SB.out HE.out) 0).trans rfl
          go_quiet (fail)
          all_goals go_wp2_with (fail)
          obtain ⟨wy, hwy⟩ : ∃ wy, wy = wz.drewN nq := ⟨_, rfl⟩
          rw [← hwy]
          have hY : Below wz.heap.size wz wy := by rw [hwy]; exact pw_below_drewN (Below.refl _ _) _
          have BE3 := Aside0.mk (blk_below BE.out hY)
          have BF3 := Aside0.mk (blk_below BF.out hY)
          have WZ3 := Aside0.mk (WZ.out.below hY)
          have HE3 := Aside0.mk (HE.out.trans (hY.mono HE.out.size))
          have FF3 := Aside0.mk (fun j o hj => by obtain ⟨ad, e1, e2, e3⟩ := FF.out j o hj; exact ⟨ad, e1, e2, pw_cell_below hY e3⟩ : ∀ (j o : Nat), (foK k)[j]? = some o → ∃ ad, AF = some ad ∧ ad.block ≠ wo.heap.size ∧ wy.cell? (ad.add j) = some (.pointer (some ⟨wo.heap.size, o, none⟩)))
          clear y0 s0 BE BF WZ HE FF hwy hY
          have BE := BE3
          have BF := BF3
          have WZ := WZ3
          have HE := HE3
          have FF := FF3
          clear BE3 BF3 WZ3 HE3 FF3
          have HBZ0 : Aside0 (Below w.heap.size w wy) := ⟨HB.out.trans ((below_then HB1.out HB1.out.size HE.out).mono HB.out.size)⟩
          have HBZ : Aside0 (∀ q, Below w.heap.size w (wy.drewN q)) := ⟨fun q => pw_below_drewN HBZ0.out q⟩
          have GB : Aside0 (w.heap.size ≤ wo.heap.size) := ⟨Nat.le_trans HB.out.size HB1.out.size⟩
          have y0 : wy.cell? ⟨g7, 0, none⟩ = some (.string (wordB k)) := (blk_cell BF.out 0).trans rfl
          have y1 : wy.cell? ⟨g7, 1, none⟩ = some (.slice AF (foK k).length (foK k).length) := (blk_cell BF.out 1).trans rfl
          have y2 : wy.cell? ⟨g7, 2, none⟩ = some (.pointer (some ⟨wo.heap.size, 6, none⟩)) := (blk_cell BF.out 2).trans rfl
          have y3 : wy.cell? ⟨g7, 3, none⟩ = some (.slice none 0 0) := (blk_cell BF.out 3).trans rfl
          have y4 : wy.cell? ⟨g7, 4, none⟩ = some (.pointer none) := (blk_cell BF.out 4).trans rfl
          have y5 : wy.cell? ⟨g7, 5, none⟩ = some (.bool false) := (blk_cell BF.out 5).trans rfl
          cases hfo : fillOf k tl with
          | some x =>
            have HFO := Aside0.mk hfo
            have HOS : Aside0 (oneOf s = some x) := ⟨by rw [HOF.out, HFO.out]⟩
            clear hfo
            go_cut [9] (fun v9 wc => v9 = .bool true ∧ Aside0 (∃ u, wc.heap[wo.heap.size]? = some (.cells (evC x u) 24 (0, 0)) ∧ Kd.R (Kd.int .i64) 3 wc wy.heap.size (fun k => wy.heap.size ≤ k) u x.f7) ∧ Aside0 (Fr wy.heap.size wo.heap.size wy wc))
            case first =>
              go_still_tail 3, (by kernel_rfl)
              change wpList _ _ _ _ _ (World.drew wy)
              have HD := Aside0.mk (show Below wy.heap.size wy wy.drew from below_drew (Below.refl _ _))
              have BE4 : Aside0 (wy.drew.heap[wo.heap.size]? = some (.cells (evC ⟨k, 0, 0, 0, 0, 0, 0, []⟩ (.slice none 0 0)) 24 (0, 0))) := ⟨BE.out⟩
              have FF4 : Aside0 (∀ (j o : Nat), (foK k)[j]? = some o → ∃ ad, AF = some ad ∧ ad.block ≠ wo.heap.size ∧ wy.drew.cell? (ad.add j) = some (.pointer (some ⟨wo.heap.size, o, none⟩))) := ⟨FF.out⟩
              have WZ4 : Aside0 (WordsIn wy.drew wo.heap.size A1 tl) := ⟨WZ.out⟩
              have HBZ4 : Aside0 (Below w.heap.size w wy.drew) := ⟨below_drew HBZ0.out⟩
              generalize wy.drew = wd at HD BE4 FF4 WZ4 HBZ4 ⊢
              go_wp2_with (go_at_call 49; refine (fill_c1 k K1.out K2.out HCL.out wo.heap.size AF A1 tl.length tl _ w HL.out HBZ4.out GB.out BE4.out FF4.out WZ4.out (Nat.le_refl _) HCL0.out HSZ.out).mono ?_; rw [HFO.out]; rintro e w5 ⟨rfl, ⟨u5, h5, hr5⟩, hf5⟩; have BK5 := Aside0.mk h5; have HR5 := Aside0.mk hr5; have FR5 := Aside0.mk ((Fr.of_below HD.out).trans (hf5.mono HD.out.size)); clear h5 hr5 hf5)
              all_goals go_wp2_with (fail)
              all_goals go_meet
              all_goals exact ⟨rfl, ⟨⟨_, BK5.out, Kd.R_mono (Kd.R_lower HR5.out HD.out.size) (fun k hk => Nat.le_trans HD.out.size hk)⟩⟩, FR5⟩
            case rest =>
              obtain ⟨rfl, ⟨u, hbk, hR⟩, FR⟩ := hcut
              obtain ⟨Au, cu, rfl⟩ := Kd.R_slice hR
              have HR := Aside0.mk hR
              clear hR
              have BK := Aside0.mk hbk
              have RB2 := Aside0.mk (FR.out.blk (blk_below RB.out HE.out) (Nat.le_refl _) (Nat.ne_of_lt GR.out))
              have HBC : Aside0 (Below w.heap.size w wc) := ⟨HBZ0.out.trans (FR.out.below HBZ0.out.size GB.out)⟩
              clear hbk
              go_wp2_with (first
                | (refine wpList_load_row rfl 24 (.tmp 6) rfl wo.heap.size rfl 24 (evC x (.slice Au x.f7.length cu)) (0, 0) _ BK.out Tryd.underlying24 rfl (by kernel_rfl) ?_)
                | (refine wpList_store_row rfl 24 (.tmp 2) (.tmp 32) rfl w.heap.size (evC x (.slice Au x.f7.length cu)) rfl rfl 24 _ RB2.out (by kernel_rfl) rfl (by kernel_rfl) ?_; have n9_ : Aside0 ((wc.setRow w.heap.size (evC x (.slice Au x.f7.length cu))).heap[w.heap.size]? = some (.cells (evC x (.slice Au x.f7.length cu)) 24 (0, 0))) := ⟨setRow_heap _ _ _ _ _ _ RB2.out⟩; have n8_ := Aside0.mk (below_setRow HBC.out (Nat.le_refl _) (evC x (.slice Au x.f7.length cu))); have n7_ := Aside0.mk (R_setRow HR.out RB2.out (by decide) (cs' := evC x (.slice Au x.f7.length cu))); generalize wc.setRow w.heap.size (evC x (.slice Au x.f7.length cu)) = wy at n9_ n8_ n7_ ⊢))
              refine bodyPost_ret (results_ct rfl _ _ w.heap.size 24 (evC x (.slice Au x.f7.length cu)) (0, 0) _ rfl n9_.out Tryd.underlying24 rfl (by kernel_rfl)) rfl ?_
              rw [HOS.out]
              exact ⟨Au, cu, rfl, Kd.R_mono (Kd.R_lower n7_.out HBZ0.out.size) (fun k hk => Nat.le_trans HBZ0.out.size hk.1), n8_.out⟩
          | none =>
            have HFO := Aside0.mk hfo
            have HOS : Aside0 (oneOf s = none) := ⟨by rw [HOF.out, HFO.out]⟩
            clear hfo
            go_cut [9] (fun v9 wc => v9 = .bool false ∧ Aside0 (∃ x A n c, wc.heap[wo.heap.size]? = some (.cells (evC x (.slice A n c)) 24 (0, 0))) ∧ Aside0 (Fr wy.heap.size wo.heap.size wy wc))
            case first =>
              go_still_tail 3, (by kernel_rfl)
              change wpList _ _ _ _ _ (World.drew wy)
              have HD := Aside0.mk (show Below wy.heap.size wy wy.drew from below_drew (Below.refl _ _))
              have BE4 : Aside0 (wy.drew.heap[wo.heap.size]? = some (.cells (evC ⟨k, 0, 0, 0, 0, 0, 0, []⟩ (.slice none 0 0)) 24 (0, 0))) := ⟨BE.out⟩
              have FF4 : Aside0 (∀ (j o : Nat), (foK k)[j]? = some o → ∃ ad, AF = some ad ∧ ad.block ≠ wo.heap.size ∧ wy.drew.cell? (ad.add j) = some (.pointer (some ⟨wo.heap.size, o, none⟩))) := ⟨FF.out⟩
              have WZ4 : Aside0 (WordsIn wy.drew wo.heap.size A1 tl) := ⟨WZ.out⟩
              have HBZ4 : Aside0 (Below w.heap.size w wy.drew) := ⟨below_drew HBZ0.out⟩
              generalize wy.drew = wd at HD BE4 FF4 WZ4 HBZ4 ⊢
              go_wp2_with (go_at_call 49; refine (fill_c1 k K1.out K2.out HCL.out wo.heap.size AF A1 tl.length tl _ w HL.out HBZ4.out GB.out BE4.out FF4.out WZ4.out (Nat.le_refl _) HCL0.out HSZ.out).mono ?_; rw [HFO.out]; rintro e w5 ⟨rfl, ⟨x5, A5, n5, c5, h5⟩, hf5⟩; have BK5 := Aside0.mk h5; have FR5 := Aside0.mk ((Fr.of_below HD.out).trans (hf5.mono HD.out.size)); clear h5 hf5)
              all_goals go_wp2_with (fail)
              all_goals go_meet
              all_goals exact ⟨rfl, ⟨⟨_, _, _, _, BK5.out⟩⟩, FR5⟩
            case rest =>
              obtain ⟨rfl, ⟨x, Au, nu, cu, hbk⟩, FR⟩ := hcut
              have BK := Aside0.mk hbk
              have RB2 := Aside0.mk (FR.out.blk (blk_below RB.out HE.out) (Nat.le_refl _) (Nat.ne_of_lt GR.out))
              have HBC : Aside0 (Below w.heap.size w wc) := ⟨HBZ0.out.trans (FR.out.below HBZ0.out.size GB.out)⟩
              clear hbk
              go_wp2_with (first
                | (refine wpList_load_row rfl 24 (.tmp 6) rfl wo.heap.size rfl 24 (evC x (.slice Au nu cu)) (0, 0) _ BK.out Tryd.underlying24 rfl (by kernel_rfl) ?_)
                | (refine wpList_store_row rfl 24 (.tmp 2) (.tmp 32) rfl w.heap.size (evC x (.slice Au nu cu)) rfl rfl 24 _ RB2.out (by kernel_rfl) rfl (by kernel_rfl) ?_; have n9_ : Aside0 ((wc.setRow w.heap.size (evC x (.slice Au nu cu))).heap[w.heap.size]? = some (.cells (evC x (.slice Au nu cu)) 24 (0, 0))) := ⟨setRow_heap _ _ _ _ _ _ RB2.out⟩; have n8_ := Aside0.mk (below_setRow HBC.out (Nat.le_refl _) (evC x (.slice Au nu cu))); generalize wc.setRow w.heap.size (evC x (.slice Au nu cu)) = wy at n9_ n8_ ⊢))
              refine bodyPost_ret (results_ct rfl _ _ w.heap.size 24 (evC x (.slice Au nu cu)) (0, 0) _ rfl n9_.out Tryd.underlying24 rfl (by kernel_rfl)) rfl ?_
              rw [HOS.out]
              exact ⟨⟨_, _, _, _, rfl⟩, n8_.out⟩
        · have he1 : ((wordB k).toList == hd.toList) = false := beq_eq_false_iff_ne.2 he
          have HKN : Aside0 (kindOf hd = kindFrom hd (12 - (k + 1)) (k + 1)) := ⟨by rw [HKS.out, if_neg he]⟩
          clear he
          go_upto_region 7 with (go_at_call 23; refine (form_c1 k K1.out K2.out HCL.out wo.heap.size (⟨k, 0, 0, 0, 0, 0, 0, []⟩ : S24) (.slice none 0 0) _ rfl (heap_alloc_new _ _)).mono ?_; rintro e w2 ⟨_, rfl, ⟨AF, rfl, hF⟩, hb⟩; have HE := Aside0.mk ((bel1 wo (.cells (evC (⟨k, 0, 0, 0, 0, 0, 0, []⟩ : S24) (.slice none 0 0)) 24)).trans (hb.mono (by rw [size_alloc]; omega))); clear hF hb)
          have BF := Aside0.mk (heap_alloc_new w2 (.cells #[.string (wordB k), .slice AF (foK k).length (foK k).length, .pointer (some ⟨wo.heap.size, 6, none⟩), .slice none 0 0, .pointer none, .bool false] 48))
          have HE2 := Aside0.mk (HE.out.trans ((bel1 w2 (.cells #[.string (wordB k), .slice AF (foK k).length (foK k).length, .pointer (some ⟨wo.heap.size, 6, none⟩), .slice none 0 0, .pointer none, .bool false] 48)).mono HE.out.size))
          generalize w2.heap.size = g7 at BF ⊢
          generalize w2.alloc (.cells #[.string (wordB k), .slice AF (foK k).length (foK k).length, .pointer (some ⟨wo.heap.size, 6, none⟩), .slice none 0 0, .pointer none, .bool false] 48) = wz at *
          have y0 : wz.cell? ⟨g7, 0, none⟩ = some (.string (wordB k)) := (blk_cell BF.out 0).trans rfl
          have s0 : wz.cell? ⟨w.heap.size + 1, 0, none⟩ = some (.string hd) := (blk_cell (blk_below SB.out HE2.out) 0).trans rfl
          go_quiet (fail)
          all_goals go_wp2_with (fail)
          all_goals go_roundw
          case rel => exact ⟨k + 1, by go_num, by omega, by omega, HKN, ⟨pw_below_drewN (below_then HB1.out HB1.out.size HE2.out) _⟩⟩
          case measure => simp [intOf]; omega
      · have HCL := Aside0.mk hcl
        clear hcl
        by_cases he : (wordB k).toList = hd.toList
        · have he1 : ((wordB k).toList == hd.toList) = true := beq_iff_eq.2 he
          have HOF : Aside0 (oneOf s = fillOf k tl) := ⟨by rw [HONE.out, HKS.out, if_pos he]; rfl⟩
          clear he
          have hsl0 := words_tail (w := wo) (g := wo.heap.size) (A := some ⟨w.heap.size + 1, 0, none⟩) (t := hd) (r := tl) ⟨fun ad h => by injection h with h; rw [← h]; exact Nat.ne_of_lt GS.out, fun j t hj => ⟨_, rfl, by rw [show (⟨w.heap.size + 1, 0, none⟩ : Addr).add j = ⟨w.heap.size + 1, j, none⟩ by simp [Addr.add]; exact Eq.symm, blk_cell SB.out j, List.getElem?_toArray, List.getElem?_map, hj]; rfl⟩⟩ (tl.length + 1) (Nat.le_refl _)
          obtain ⟨A1, hsl, hw1⟩ := hsl0
          have WS := Aside0.mk hw1
          clear hw1
          go_upto_region 7 with (go_at_call 23; refine (form_c2 k K1.out K2.out HCL.out wo.heap.size (⟨k, 0, 0, 0, 0, 0, 0, []⟩ : S24) (.slice none 0 0) _ rfl (heap_alloc_new _ _)).mono ?_; rintro e w2 ⟨_, bW, rfl, ⟨AF, rfl, hF⟩, hW, hb⟩; have BE := Aside0.mk (blk_below (heap_alloc_new wo (.cells (evC (⟨k, 0, 0, 0, 0, 0, 0, []⟩ : S24) (.slice none 0 0)) 24)) hb); have BW := Aside0.mk hW; have NW : Aside0 (bW ≠ wo.heap.size) := ⟨by rintro rfl; have h1 := hW.symm.trans BE.out; injection h1 with h1; injection h1 with _ h2 _; cases h2⟩; clear hW; have FF := Aside0.mk hF; have HE := Aside0.mk ((bel1 wo (.cells (evC (⟨k, 0, 0, 0, 0, 0, 0, []⟩ : S24) (.slice none 0 0)) 24)).trans (hb.mono (by rw [size_alloc]; omega))); clear hF hb)
          have BF := Aside0.mk (heap_alloc_new w2 (.cells #[.string (wordB k), .slice AF (foK k).length (foK k).length, .pointer none, .slice (some ⟨bW, 0, none⟩) (wsK k).length (wsK k).length, .pointer (some ⟨wo.heap.size, 6, none⟩), .bool false] 48))
          have BE2 := Aside0.mk (blk_below BE.out (bel1 w2 (.cells #[.string (wordB k), .slice AF (foK k).length (foK k).length, .pointer none, .slice (some ⟨bW, 0, none⟩) (wsK k).length (wsK k).length, .pointer (some ⟨wo.heap.size, 6, none⟩), .bool false] 48)))
          have FF2 := Aside0.mk (fun j o hj => by obtain ⟨ad, e1, e2, e3⟩ := FF.out j o hj; exact ⟨ad, e1, e2, pw_cell_below (bel1 w2 (.cells #[.string (wordB k), .slice AF (foK k).length (foK k).length, .pointer none, .slice (some ⟨bW, 0, none⟩) (wsK k).length (wsK k).length, .pointer (some ⟨wo.heap.size, 6, none⟩), .bool false] 48)) e3⟩ : ∀ (j o : Nat), (foK k)[j]? = some o → ∃ ad, AF = some ad ∧ ad.block ≠ wo.heap.size ∧ (w2.alloc (.cells #[.string (wordB k), .slice AF (foK k).length (foK k).length, .pointer none, .slice (some ⟨bW, 0, none⟩) (wsK k).length (wsK k).length, .pointer (some ⟨wo.heap.size, 6, none⟩), .bool false] 48)).cell? (ad.add j) = some (.pointer (some ⟨wo.heap.size, o, none⟩)))
          have HE2 := Aside0.mk (HE.out.trans ((bel1 w2 (.cells #[.string (wordB k), .slice AF (foK k).length (foK k).length, .pointer none, .slice (some ⟨bW, 0, none⟩) (wsK k).length (wsK k).length, .pointer (some ⟨wo.heap.size, 6, none⟩), .bool false] 48)).mono HE.out.size))
          have BW2 := Aside0.mk (blk_below BW.out (bel1 w2 (.cells #[.string (wordB k), .slice AF (foK k).length (foK k).length, .pointer none, .slice (some ⟨bW, 0, none⟩) (wsK k).length (wsK k).length, .pointer (some ⟨wo.heap.size, 6, none⟩), .bool false] 48)))
          clear BW
          have BW := BW2
          clear BW2
          clear BE FF HE
          generalize w2.heap.size = g7 at BF ⊢
          generalize w2.alloc (.cells #[.string (wordB k), .slice AF (foK k).length (foK k).length, .pointer none, .slice (some ⟨bW, 0, none⟩) (wsK k).length (wsK k).length, .pointer (some ⟨wo.heap.size, 6, none⟩), .bool false] 48) = wz at *
          have BE := BE2
          have FF := FF2
          have HE := HE2
          clear BE2 FF2 HE2
          have WZ := Aside0.mk (WS.out.below HE.out)
          have y0 : wz.cell? ⟨g7, 0, none⟩ = some (.string (wordB k)) := (blk_cell BF.out 0).trans rfl
          have s0 : wz.cell? ⟨w.heap.size + 1, 0, none⟩ = some (.string hd) := (blk_cell (blk_below SB.out HE.out) 0).trans rfl
          go_quiet (fail)
          all_goals go_wp2_with (fail)
          obtain ⟨wy, hwy⟩ : ∃ wy, wy = wz.drewN nq := ⟨_, rfl⟩
          rw [← hwy]
          have hY : Below wz.heap.size wz wy := by rw [hwy]; exact pw_below_drewN (Below.refl _ _) _
          have BE3 := Aside0.mk (blk_below BE.out hY)
          have BF3 := Aside0.mk (blk_below BF.out hY)
          have WZ3 := Aside0.mk (WZ.out.below hY)
          have HE3 := Aside0.mk (HE.out.trans (hY.mono HE.out.size))
          have FF3 := Aside0.mk (fun j o hj => by obtain ⟨ad, e1, e2, e3⟩ := FF.out j o hj; exact ⟨ad, e1, e2, pw_cell_below hY e3⟩ : ∀ (j o : Nat), (foK k)[j]? = some o → ∃ ad, AF = some ad ∧ ad.block ≠ wo.heap.size ∧ wy.cell? (ad.add j) = some (.pointer (some ⟨wo.heap.size, o, none⟩)))
          have BW3 := Aside0.mk (blk_below BW.out hY)
          clear BW
          have BW := BW3
          clear BW3
          clear y0 s0 BE BF WZ HE FF hwy hY
          have BE := BE3
          have BF := BF3
          have WZ := WZ3
          have HE := HE3
          have FF := FF3
          clear BE3 BF3 WZ3 HE3 FF3
          have HBZ0 : Aside0 (Below w.heap.size w wy) := ⟨HB.out.trans ((below_then HB1.out HB1.out.size HE.out).mono HB.out.size)⟩
          have HBZ : Aside0 (∀ q, Below w.heap.size w (wy.drewN q)) := ⟨fun q => pw_below_drewN HBZ0.out q⟩
          have GB : Aside0 (w.heap.size ≤ wo.heap.size) := ⟨Nat.le_trans HB.out.size HB1.out.size⟩
          have y0 : wy.cell? ⟨g7, 0, none⟩ = some (.string (wordB k)) := (blk_cell BF.out 0).trans rfl
          have y1 : wy.cell? ⟨g7, 1, none⟩ = some (.slice AF (foK k).length (foK k).length) := (blk_cell BF.out 1).trans rfl
          have y2 : wy.cell? ⟨g7, 2, none⟩ = some (.pointer none) := (blk_cell BF.out 2).trans rfl
          have y3 : wy.cell? ⟨g7, 3, none⟩ = some (.slice (some ⟨bW, 0, none⟩) (wsK k).length (wsK k).length) := (blk_cell BF.out 3).trans rfl
          have y4 : wy.cell? ⟨g7, 4, none⟩ = some (.pointer (some ⟨wo.heap.size, 6, none⟩)) := (blk_cell BF.out 4).trans rfl
          have y5 : wy.cell? ⟨g7, 5, none⟩ = some (.bool false) := (blk_cell BF.out 5).trans rfl
          cases hfo : fillOf k tl with
          | some x =>
            have HFO := Aside0.mk hfo
            have HOS : Aside0 (oneOf s = some x) := ⟨by rw [HOF.out, HFO.out]⟩
            clear hfo
            go_cut [9] (fun v9 wc => v9 = .bool true ∧ Aside0 (∃ u, wc.heap[wo.heap.size]? = some (.cells (evC x u) 24 (0, 0)) ∧ Kd.R (Kd.int .i64) 3 wc wy.heap.size (fun k => wy.heap.size ≤ k) u x.f7) ∧ Aside0 (Fr wy.heap.size wo.heap.size wy wc))
            case first =>
              go_still_tail 3, (by kernel_rfl)
              change wpList _ _ _ _ _ (World.drew wy)
              have HD := Aside0.mk (show Below wy.heap.size wy wy.drew from below_drew (Below.refl _ _))
              have BE4 : Aside0 (wy.drew.heap[wo.heap.size]? = some (.cells (evC ⟨k, 0, 0, 0, 0, 0, 0, []⟩ (.slice none 0 0)) 24 (0, 0))) := ⟨BE.out⟩
              have FF4 : Aside0 (∀ (j o : Nat), (foK k)[j]? = some o → ∃ ad, AF = some ad ∧ ad.block ≠ wo.heap.size ∧ wy.drew.cell? (ad.add j) = some (.pointer (some ⟨wo.heap.size, o, none⟩))) := ⟨FF.out⟩
              have WZ4 : Aside0 (WordsIn wy.drew wo.heap.size A1 tl) := ⟨WZ.out⟩
              have HBZ4 : Aside0 (Below w.heap.size w wy.drew) := ⟨below_drew HBZ0.out⟩
              have BW4 : Aside0 (wy.drew.heap[bW]? = some (.cells ((wsK k).map Value.string).toArray 9 (0, 0))) := ⟨BW.out⟩
              generalize wy.drew = wd at HD BE4 FF4 WZ4 HBZ4 BW4 ⊢
              go_wp2_with (go_at_call 49; refine (fill_c2 k K1.out K2.out HCL.out wo.heap.size AF A1 tl.length bW tl _ w HL.out HBZ4.out GB.out BE4.out FF4.out BW4.out NW.out WZ4.out (Nat.le_refl _) HCL0.out HSZ.out).mono ?_; rw [HFO.out]; rintro e w5 ⟨rfl, ⟨u5, h5, hr5⟩, hf5⟩; have BK5 := Aside0.mk h5; have HR5 := Aside0.mk hr5; have FR5 := Aside0.mk ((Fr.of_below HD.out).trans (hf5.mono HD.out.size)); clear h5 hr5 hf5)
              all_goals go_wp2_with (fail)
              all_goals go_meet
              all_goals exact ⟨rfl, ⟨⟨_, BK5.out, Kd.R_mono (Kd.R_lower HR5.out HD.out.size) (fun k hk => Nat.le_trans HD.out.size hk)⟩⟩, FR5⟩
            case rest =>
              obtain ⟨rfl, ⟨u, hbk, hR⟩, FR⟩ := hcut
              obtain ⟨Au, cu, rfl⟩ := Kd.R_slice hR
              have HR := Aside0.mk hR
              clear hR
              have BK := Aside0.mk hbk
              have RB2 := Aside0.mk (FR.out.blk (blk_below RB.out HE.out) (Nat.le_refl _) (Nat.ne_of_lt GR.out))
              have HBC : Aside0 (Below w.heap.size w wc) := ⟨HBZ0.out.trans (FR.out.below HBZ0.out.size GB.out)⟩
              clear hbk
              go_wp2_with (first
                | (refine wpList_load_row rfl 24 (.tmp 6) rfl wo.heap.size rfl 24 (evC x (.slice Au x.f7.length cu)) (0, 0) _ BK.out Tryd.underlying24 rfl (by kernel_rfl) ?_)
                | (refine wpList_store_row rfl 24 (.tmp 2) (.tmp 32) rfl w.heap.size (evC x (.slice Au x.f7.length cu)) rfl rfl 24 _ RB2.out (by kernel_rfl) rfl (by kernel_rfl) ?_; have n9_ : Aside0 ((wc.setRow w.heap.size (evC x (.slice Au x.f7.length cu))).heap[w.heap.size]? = some (.cells (evC x (.slice Au x.f7.length cu)) 24 (0, 0))) := ⟨setRow_heap _ _ _ _ _ _ RB2.out⟩; have n8_ := Aside0.mk (below_setRow HBC.out (Nat.le_refl _) (evC x (.slice Au x.f7.length cu))); have n7_ := Aside0.mk (R_setRow HR.out RB2.out (by decide) (cs' := evC x (.slice Au x.f7.length cu))); generalize wc.setRow w.heap.size (evC x (.slice Au x.f7.length cu)) = wy at n9_ n8_ n7_ ⊢))
              refine bodyPost_ret (results_ct rfl _ _ w.heap.size 24 (evC x (.slice Au x.f7.length cu)) (0, 0) _ rfl n9_.out Tryd.underlying24 rfl (by kernel_rfl)) rfl ?_
              rw [HOS.out]
              exact ⟨Au, cu, rfl, Kd.R_mono (Kd.R_lower n7_.out HBZ0.out.size) (fun k hk => Nat.le_trans HBZ0.out.size hk.1), n8_.out⟩
          | none =>
            have HFO := Aside0.mk hfo
            have HOS : Aside0 (oneOf s = none) := ⟨by rw [HOF.out, HFO.out]⟩
            clear hfo
            go_cut [9] (fun v9 wc => v9 = .bool false ∧ Aside0 (∃ x A n c, wc.heap[wo.heap.size]? = some (.cells (evC x (.slice A n c)) 24 (0, 0))) ∧ Aside0 (Fr wy.heap.size wo.heap.size wy wc))
            case first =>
              go_still_tail 3, (by kernel_rfl)
              change wpList _ _ _ _ _ (World.drew wy)
              have HD := Aside0.mk (show Below wy.heap.size wy wy.drew from below_drew (Below.refl _ _))
              have BE4 : Aside0 (wy.drew.heap[wo.heap.size]? = some (.cells (evC ⟨k, 0, 0, 0, 0, 0, 0, []⟩ (.slice none 0 0)) 24 (0, 0))) := ⟨BE.out⟩
              have FF4 : Aside0 (∀ (j o : Nat), (foK k)[j]? = some o → ∃ ad, AF = some ad ∧ ad.block ≠ wo.heap.size ∧ wy.drew.cell? (ad.add j) = some (.pointer (some ⟨wo.heap.size, o, none⟩))) := ⟨FF.out⟩
              have WZ4 : Aside0 (WordsIn wy.drew wo.heap.size A1 tl) := ⟨WZ.out⟩
              have HBZ4 : Aside0 (Below w.heap.size w wy.drew) := ⟨below_drew HBZ0.out⟩
              have BW4 : Aside0 (wy.drew.heap[bW]? = some (.cells ((wsK k).map Value.string).toArray 9 (0, 0))) := ⟨BW.out⟩
              generalize wy.drew = wd at HD BE4 FF4 WZ4 HBZ4 BW4 ⊢
              go_wp2_with (go_at_call 49; refine (fill_c2 k K1.out K2.out HCL.out wo.heap.size AF A1 tl.length bW tl _ w HL.out HBZ4.out GB.out BE4.out FF4.out BW4.out NW.out WZ4.out (Nat.le_refl _) HCL0.out HSZ.out).mono ?_; rw [HFO.out]; rintro e w5 ⟨rfl, ⟨x5, A5, n5, c5, h5⟩, hf5⟩; have BK5 := Aside0.mk h5; have FR5 := Aside0.mk ((Fr.of_below HD.out).trans (hf5.mono HD.out.size)); clear h5 hf5)
              all_goals go_wp2_with (fail)
              all_goals go_meet
              all_goals exact ⟨rfl, ⟨⟨_, _, _, _, BK5.out⟩⟩, FR5⟩
            case rest =>
              obtain ⟨rfl, ⟨x, Au, nu, cu, hbk⟩, FR⟩ := hcut
              have BK := Aside0.mk hbk
              have RB2 := Aside0.mk (FR.out.blk (blk_below RB.out HE.out) (Nat.le_refl _) (Nat.ne_of_lt GR.out))
              have HBC : Aside0 (Below w.heap.size w wc) := ⟨HBZ0.out.trans (FR.out.below HBZ0.out.size GB.out)⟩
              clear hbk
              go_wp2_with (first
                | (refine wpList_load_row rfl 24 (.tmp 6) rfl wo.heap.size rfl 24 (evC x (.slice Au nu cu)) (0, 0) _ BK.out Tryd.underlying24 rfl (by kernel_rfl) ?_)
                | (refine wpList_store_row rfl 24 (.tmp 2) (.tmp 32) rfl w.heap.size (evC x (.slice Au nu cu)) rfl rfl 24 _ RB2.out (by kernel_rfl) rfl (by kernel_rfl) ?_; have n9_ : Aside0 ((wc.setRow w.heap.size (evC x (.slice Au nu cu))).heap[w.heap.size]? = some (.cells (evC x (.slice Au nu cu)) 24 (0, 0))) := ⟨setRow_heap _ _ _ _ _ _ RB2.out⟩; have n8_ := Aside0.mk (below_setRow HBC.out (Nat.le_refl _) (evC x (.slice Au nu cu))); generalize wc.setRow w.heap.size (evC x (.slice Au nu cu)) = wy at n9_ n8_ ⊢))
              refine bodyPost_ret (results_ct rfl _ _ w.heap.size 24 (evC x (.slice Au nu cu)) (0, 0) _ rfl n9_.out Tryd.underlying24 rfl (by kernel_rfl)) rfl ?_
              rw [HOS.out]
              exact ⟨⟨_, _, _, _, rfl⟩, n8_.out⟩
        · have he1 : ((wordB k).toList == hd.toList) = false := beq_eq_false_iff_ne.2 he
          have HKN : Aside0 (kindOf hd = kindFrom hd (12 - (k + 1)) (k + 1)) := ⟨by rw [HKS.out, if_neg he]⟩
          clear he
          go_upto_region 7 with (go_at_call 23; refine (form_c2 k K1.out K2.out HCL.out wo.heap.size (⟨k, 0, 0, 0, 0, 0, 0, []⟩ : S24) (.slice none 0 0) _ rfl (heap_alloc_new _ _)).mono ?_; rintro e w2 ⟨_, bW, rfl, ⟨AF, rfl, hF⟩, hW, hb⟩; have HE := Aside0.mk ((bel1 wo (.cells (evC (⟨k, 0, 0, 0, 0, 0, 0, []⟩ : S24) (.slice none 0 0)) 24)).trans (hb.mono (by rw [size_alloc]; omega))); clear hF hb)
          have BF := Aside0.mk (heap_alloc_new w2 (.cells #[.string (wordB k), .slice AF (foK k).length (foK k).length, .pointer none, .slice (some ⟨bW, 0, none⟩) (wsK k).length (wsK k).length, .pointer (some ⟨wo.heap.size, 6, none⟩), .bool false] 48))
          have HE2 := Aside0.mk (HE.out.trans ((bel1 w2 (.cells #[.string (wordB k), .slice AF (foK k).length (foK k).length, .pointer none, .slice (some ⟨bW, 0, none⟩) (wsK k).length (wsK k).length, .pointer (some ⟨wo.heap.size, 6, none⟩), .bool false] 48)).mono HE.out.size))
          generalize w2.heap.size = g7 at BF ⊢
          generalize w2.alloc (.cells #[.string (wordB k), .slice AF (foK k).length (foK k).length, .pointer none, .slice (some ⟨bW, 0, none⟩) (wsK k).length (wsK k).length, .pointer (some ⟨wo.heap.size, 6, none⟩), .bool false] 48) = wz at *
          have y0 : wz.cell? ⟨g7, 0, none⟩ = some (.string (wordB k)) := (blk_cell BF.out 0).trans rfl
          have s0 : wz.cell? ⟨w.heap.size + 1, 0, none⟩ = some (.string hd) := (blk_cell (blk_below SB.out HE2.out) 0).trans rfl
          go_quiet (fail)
          all_goals go_wp2_with (fail)
          all_goals go_roundw
          case rel => exact ⟨k + 1, by go_num, by omega, by omega, HKN, ⟨pw_below_drewN (below_then HB1.out HB1.out.size HE2.out) _⟩⟩
          case measure => simp [intOf]; omega
    · obtain rfl : k = 12 := by omega
      have HOF : Aside0 (oneOf s = none) := ⟨by rw [HONE.out, HK.out]; rfl⟩
      have RB := Aside0.mk (blk_below BR.out HB1.out)
      have HBC : Aside0 (Below w.heap.size w wo) := ⟨HB.out.trans (HB1.out.mono HB.out.size)⟩
      go_wp2_with (refine wpList_store_row rfl 24 (.tmp 2) (.tmp 34) rfl w.heap.size (evC ⟨0, 0, 0, 0, 0, 0, 0, []⟩ (.slice none 0 0)) rfl rfl 24 _ RB.out (by kernel_rfl) rfl (by kernel_rfl) ?_; have n9_ : Aside0 ((wo.setRow w.heap.size (evC ⟨0, 0, 0, 0, 0, 0, 0, []⟩ (.slice none 0 0))).heap[w.heap.size]? = some (.cells (evC ⟨0, 0, 0, 0, 0, 0, 0, []⟩ (.slice none 0 0)) 24 (0, 0))) := ⟨setRow_heap _ _ _ _ _ _ RB.out⟩; have n8_ := Aside0.mk (below_setRow HBC.out (Nat.le_refl _) (evC ⟨0, 0, 0, 0, 0, 0, 0, []⟩ (.slice none 0 0))); generalize wo.setRow w.heap.size (evC ⟨0, 0, 0, 0, 0, 0, 0, []⟩ (.slice none 0 0)) = wy at n9_ n8_ ⊢)
      refine bodyPost_ret (results_ct rfl _ _ w.heap.size 24 (evC ⟨0, 0, 0, 0, 0, 0, 0, []⟩ (.slice none 0 0)) (0, 0) _ rfl n9_.out Tryd.underlying24 rfl (by kernel_rfl)) rfl ?_
      rw [HOF.out]
      exact ⟨⟨_, _, _, _, rfl⟩, n8_.out⟩
end Go.Proofs.YtiapfhlipoomaaaDoor.Given
