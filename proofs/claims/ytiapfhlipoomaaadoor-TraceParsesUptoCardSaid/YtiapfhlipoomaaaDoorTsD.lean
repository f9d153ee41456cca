/- Lemmas for the claim (what no proof of it names is left out). -/
import Derived.Test.YtiapfhlipoomaaaDoorTsC
import Derived.StillTailTactics
import Derived.Laws.CopyOwn
import Derived.Laws.RangeAny
import Derived.Lib.OthersKept
import Derived.Test.YtiapfhlipoomaaaDoorTsB
import Derived.Lib.IndexMore
import Derived.Lib.CountLaws
import Derived.Test.YtiapfhlipoomaaaDoorTsA
section
namespace Go.Proofs.YtiapfhlipoomaaaDoor.Given
open Go.RowKit Go.Proofs.YtiapfhlipoomaaaDoorW.PrintWords Go.Proofs.YtiapfhlipoomaaaDoorW.PrintLast Go.Proofs.YtiapfhlipoomaaaDoorW.PrintMore Go.Proofs.YtiapfhlipoomaaaDoor.Print
set_option linter.unusedVariables false
set_option linter.unusedSimpArgs false
def kindFrom (t : ByteArray) : Nat → Nat → Option Nat
  | 0, _ => none
  | m + 1, k => if (wordB k).toList = t.toList then some k else kindFrom t m (k + 1)
def kindOf (t : ByteArray) : Option Nat := kindFrom t 11 1
def oneOf (s : ByteArray) : Option S24 := (kindOf ((wordsL s).headD ⟨#[]⟩)).bind fun k => fillOf k (wordsL s).tail
def OneSays (w : World) (r : Option S24) (e : Ending) (w' : World) : Prop := match r with
  | some x => ∃ A c, e = .returned (.tuple #[.agg (evC x (.slice A x.f7.length c)), .bool true]) ∧ Kd.R (Kd.int .i64) 3 w' w.heap.size (fun k => w.heap.size ≤ k) (.slice A x.f7.length c) x.f7 ∧ Below w.heap.size w w'
  | none => (∃ x A n c, e = .returned (.tuple #[.agg (evC x (.slice A n c)), .bool false])) ∧ Below w.heap.size w w'
theorem kind_step (t : ByteArray) (k : Nat) (hk : 1 ≤ k) (h11 : k ≤ 11) (h : kindOf t = kindFrom t (12 - k) k) : kindOf t = if (wordB k).toList = t.toList then some k else kindFrom t (12 - (k + 1)) (k + 1) := by
  rw [h, show 12 - k = (12 - (k + 1)) + 1 by omega, kindFrom]
theorem R_setRow {α : Type} {d : Kd α} {e base g t : Nat} {ok : Nat → Prop} {w : World} {v : Value} {xs : List α} {cs cs' : Array Value} (h : d.R e w base ok v xs) (hb : w.heap[g]? = some (.cells cs t (0, 0))) (ht : ∀ q, q ∈ e :: d.E → q ≠ t) : d.R e (w.setRow g cs') base (fun k => ok k ∧ k ≠ g) v xs :=
  Kd.R_step (Kd.R_types h hb ht) (fun k hk _ => setRow_other _ _ _ _ hk.2)
set_option maxRecDepth 100000 in
set_option maxHeartbeats 16000000 in
theorem one_any (s : ByteArray) (w : World) (hL : LW w) (hs : s.size < 4294967281) : Calls Tryd.prog 37 #[.string s] w (OneSays w (oneOf s)) := by
  have hu24 := Tryd.underlying24
  have hu48 := Tryd.underlying48
  have HL := Aside0.mk hL
  obtain ⟨n, hn⟩ : ∃ n : Nat, Lib.countB s space = n := ⟨_, rfl⟩
  have HN := Aside0.mk hn
  have hwl := words_length s n hn
  have hcl := count_le s
  rw [hn] at hcl
  obtain ⟨hd, tl, hws⟩ : ∃ hd tl, wordsL s = hd :: tl := by cases h : wordsL s with | nil => rw [h] at hwl; cases hwl | cons a b => exact ⟨a, b, rfl⟩
  have hsz : ∀ t ∈ tl, t.size ≤ 281474976710656 := fun t ht => Nat.le_trans (word_size s t (by rw [hws]; exact List.mem_cons_of_mem _ ht)) (by omega)
  rw [hws] at hwl
  have htl : tl.length = n := by simpa using hwl
  subst htl
  have HSZ := Aside0.mk hsz
  have HWS := Aside0.mk hws
  have HCL0 := Aside0.mk (show tl.length ≤ 4294967296 by omega)
  have HONE : Aside0 (oneOf s = (kindOf hd).bind fun k => fillOf k tl) := ⟨by unfold oneOf; rw [hws]; rfl⟩
  clear hL hn hwl hcl hws hsz
  go_enter Tryd.func37, Tryd.ntmps37
  go_wp2_with (go_at_call 48; refine (split_any s tl.length HN.out _ hs (HL.out.below (bel1 w _))).mono ?_; rintro e w1 ⟨rfl, hbk, hb⟩; have BR := Aside0.mk (blk_below (heap_alloc_new w (.cells (evC ⟨0, 0, 0, 0, 0, 0, 0, []⟩ (.slice none 0 0)) 24)) hb); have BS := Aside0.mk hbk; have HB := Aside0.mk ((bel1 w (.cells (evC ⟨0, 0, 0, 0, 0, 0, 0, []⟩ (.slice none 0 0)) 24)).trans (hb.mono (by rw [size_alloc]; omega))); clear hbk hb)
  rw [HWS.out] at BS
  rw [size_alloc] at BS
  have hsz1 := Aside0.mk (blk_lt BS.out)
  go_loopw [5] (fun v5 wr => ∃ k : Nat, v5 = .int .i64 k ∧ 1 ≤ k ∧ k ≤ 12 ∧ Aside0 (kindOf hd = kindFrom hd (12 - k) k) ∧ Aside0 (Below w1.heap.size w1 wr)) (fun v5 _ => 12 - (intOf v5).toNat)
  case atStart => exact ⟨1, rfl, by omega, by omega, ⟨rfl⟩, ⟨Below.refl _ _⟩⟩
  case round =>
    obtain ⟨k, rfl, hk1, hk2, HK, HB1⟩ := hrel
    obtain ⟨wo, rfl⟩ : ∃ wo : World, wo = wr := ⟨_, rfl⟩
    by_cases hlt : k ≤ 11
    · have HKS := Aside0.mk (kind_step hd k hk1 hlt HK.out)
      have K1 := Aside0.mk hk1
      have K2 := Aside0.mk hlt
      have SB := Aside0.mk (blk_below BS.out HB1.out)
      have RB := Aside0.mk (blk_below BR.out HB1.out)
      have GR := Aside0.mk (blk_lt RB.out)
      have GS := Aside0.mk (blk_lt SB.out)
      have hwn : ((k : Int) ≤ 11) := by omega
      rcases cls_of k with hcl | hcl | hcl
      · have HCL := Aside0.mk hcl
        clear hcl
        by_cases he : (wordB k).toList = hd.toList
        · have he1 : ((wordB k).toList == hd.toList) = true := beq_iff_eq.2 he
          have HOF : Aside0 (oneOf s = fillOf k tl) := ⟨by rw [HONE.out, HKS.out, if_pos he]; rfl⟩
          clear he
          have hsl0 := words_tail (w := wo) (g := wo.heap.size) (A := some ⟨w.heap.size + 1, 0, none⟩) (t := hd) (r := tl) ⟨fun ad h => by injection h with h; rw [← h]; exact Nat.ne_of_lt GS.out, fun j t hj => ⟨_, rfl, by rw [show (⟨w.heap.size + 1, 0, none⟩ : Addr).add j = ⟨w.heap.size + 1, j, none⟩ by simp [Addr.add]; exact Eq.symm, blk_cell SB.out j, List.getElem?_toArray, List.getElem?_map, hj]; rfl⟩⟩ (tl.length + 1) (Nat.le_refl _)
          obtain ⟨A1, hsl, hw1⟩ := hsl0
          have WS := Aside0.mk hw1
          clear hw1
          go_upto_region 7 with (go_at_call 23; refine (form_c0 k K1.out K2.out HCL.out wo.heap.size (⟨k, 0, 0, 0, 0, 0, 0, []⟩ : S24) (.slice none 0 0) _ rfl (heap_alloc_new _ _)).mono ?_; rintro e w2 ⟨_, rfl, ⟨AF, rfl, hF⟩, hb⟩; have BE := Aside0.mk (blk_below (heap_alloc_new wo (.cells (evC (⟨k, 0, 0, 0, 0, 0, 0, []⟩ : S24) (.slice none 0 0)) 24)) hb); have FF := Aside0.mk hF; have HE := Aside0.mk ((bel1 wo (.cells (evC (⟨k, 0, 0, 0, 0, 0, 0, []⟩ : S24) (.slice none 0 0)) 24)).trans (hb.mono (by rw [size_alloc]; omega))); clear hF hb)
          have BF := Aside0.mk (heap_alloc_new w2 (.cells #[.string (wordB k), .slice AF (foK k).length (foK k).length, .pointer none, .slice none 0 0, .pointer none, .bool (liK k)] 48))
          have BE2 := Aside0.mk (blk_below BE.out (bel1 w2 (.cells #[.string (wordB k), .slice AF (foK k).length (foK k).length, .pointer none, .slice none 0 0, .pointer none, .bool (liK k)] 48)))
          have FF2 := Aside0.mk (fun j o hj => by obtain ⟨ad, e1, e2, e3⟩ := FF.out j o hj; exact ⟨ad, e1, e2, pw_cell_below (bel1 w2 (.cells #[.string (wordB k), .slice AF (foK k).length (foK k).length, .pointer none, .slice none 0 0, .pointer none, .bool (liK k)] 48)) e3⟩ : ∀ (j o : Nat), (foK k)[j]? = some o → ∃ ad, AF = some ad ∧ ad.block ≠ wo.heap.size ∧ (w2.alloc (.cells #[.string (wordB k), .slice AF (foK k).length (foK k).length, .pointer none, .slice none 0 0, .pointer none, .bool (liK k)] 48)).cell? (ad.add j) = some (.pointer (some ⟨wo.heap.size, o, none⟩)))
          have HE2 := Aside0.mk (HE.out.trans ((bel1 w2 (.cells #[.string (wordB k), .slice AF (foK k).length (foK k).length, .pointer none, .slice none 0 0, .pointer none, .bool (liK k)] 48)).mono HE.out.size))
          clear BE FF HE
          generalize w2.heap.size = g7 at BF ⊢
          generalize w2.alloc (.cells #[.string (wordB k), .slice AF (foK k).length (foK k).length, .pointer none, .slice none 0 0, .pointer none, .bool (liK k)] 48) = wz at *
          have BE := BE2
          have FF := FF2
          have HE := HE2
          clear BE2 FF2 HE2
          have WZ := Aside0.mk (WS.out.below HE.out)
          have y0 : wz.cell? ⟨g7, 0, none⟩ = some (.string (wordB k)) := (blk_cell BF.out 0).trans rfl
          have s0 : wz.cell? ⟨w.heap.size + 1, 0, none⟩ = some (.string hd) := (blk_cell (blk_below SB.out HE.out) 0).trans rfl
          go_quiet (fail)
          all_goals go_wp2_with (fail)
          obtain ⟨wy, hwy⟩ : ∃ wy, wy = wz.drewN nq := ⟨_, rfl⟩
          rw [← hwy]
          have hY : Below wz.heap.size wz wy := by rw [hwy]; exact pw_below_drewN (Below.refl _ _) _
          have BE3 := Aside0.mk (blk_below BE.out hY)
          have BF3 := Aside0.mk (blk_below BF.out hY)
          have WZ3 := Aside0.mk (WZ.out.below hY)
          have HE3 := Aside0.mk (HE.out.trans (hY.mono HE.out.size))
          have FF3 := Aside0.mk (fun j o hj => by obtain ⟨ad, e1, e2, e3⟩ := FF.out j o hj; exact ⟨ad, e1, e2, pw_cell_below hY e3⟩ : ∀ (j o : Nat), (foK k)[j]? = some o → ∃ ad, AF = some ad ∧ ad.block ≠ wo.heap.size ∧ wy.cell? (ad.add j) = some (.pointer (some ⟨wo.heap.size, o, none⟩)))
          clear y0 s0 BE BF WZ HE FF hwy hY
          have BE := BE3
          have BF := BF3
          have WZ := WZ3
          have HE := HE3
          have FF := FF3
          clear BE3 BF3 WZ3 HE3 FF3
          have HBZ0 : Aside0 (Below w.heap.size w wy) := ⟨HB.out.trans ((below_then HB1.out HB1.out.size HE.out).mono HB.out.size)⟩
          have HBZ : Aside0 (∀ q, Below w.heap.size w (wy.drewN q)) := ⟨fun q => pw_below_drewN HBZ0.out q⟩
          have GB : Aside0 (w.heap.size ≤ wo.heap.size) := ⟨Nat.le_trans HB.out.size HB1.out.size⟩
          have y0 : wy.cell? ⟨g7, 0, none⟩ = some (.string (wordB k)) := (blk_cell BF.out 0).trans rfl
          have y1 : wy.cell? ⟨g7, 1, none⟩ = some (.slice AF (foK k).length (foK k).length) := (blk_cell BF.out 1).trans rfl
          have y2 : wy.cell? ⟨g7, 2, none⟩ = some (.pointer none) := (blk_cell BF.out 2).trans rfl
          have y3 : wy.cell? ⟨g7, 3, none⟩ = some (.slice none 0 0) := (blk_cell BF.out 3).trans rfl
          have y4 : wy.cell? ⟨g7, 4, none⟩ = some (.pointer none) := (blk_cell BF.out 4).trans rfl
          have y5 : wy.cell? ⟨g7, 5, none⟩ = some (.bool (liK k)) := (blk_cell BF.out 5).trans rfl
          cases hfo : fillOf k tl with
          | some x =>
            have HFO := Aside0.mk hfo
            have HOS : Aside0 (oneOf s = some x) := ⟨by rw [HOF.out, HFO.out]⟩
            clear hfo
            go_cut [9] (fun v9 wc => v9 = .bool true ∧ Aside0 (∃ u, wc.heap[wo.heap.size]? = some (.cells (evC x u) 24 (0, 0)) ∧ Kd.R (Kd.int .i64) 3 wc wy.heap.size (fun k => wy.heap.size ≤ k) u x.f7) ∧ Aside0 (Fr wy.heap.size wo.heap.size wy wc))
            case first =>
              go_still_tail 3, (by kernel_rfl)
              change wpList _ _ _ _ _ (World.drew wy)
              have HD := Aside0.mk (show Below wy.heap.size wy wy.drew from below_drew (Below.refl _ _))
              have BE4 : Aside0 (wy.drew.heap[wo.heap.size]? = some (.cells (evC ⟨k, 0, 0, 0, 0, 0, 0, []⟩ (.slice none 0 0)) 24 (0, 0))) := ⟨BE.out⟩
              have FF4 : Aside0 (∀ (j o : Nat), (foK k)[j]? = some o → ∃ ad, AF = some ad ∧ ad.block ≠ wo.heap.size ∧ wy.drew.cell? (ad.add j) = some (.pointer (some ⟨wo.heap.size, o, none⟩))) := ⟨FF.out⟩
              have WZ4 : Aside0 (WordsIn wy.drew wo.heap.size A1 tl) := ⟨WZ.out⟩
              have HBZ4 : Aside0 (Below w.heap.size w wy.drew) := ⟨below_drew HBZ0.out⟩
              generalize wy.drew = wd at HD BE4 FF4 WZ4 HBZ4 ⊢
              go_wp2_with (go_at_call 49; refine (fill_c0 k K1.out K2.out HCL.out wo.heap.size AF A1 tl.length tl _ w HL.out HBZ4.out GB.out BE4.out FF4.out WZ4.out (Nat.le_refl _) HCL0.out HSZ.out).mono ?_; rw [HFO.out]; rintro e w5 ⟨rfl, ⟨u5, h5, hr5⟩, hf5⟩; have BK5 := Aside0.mk h5; have HR5 := Aside0.mk hr5; have FR5 := Aside0.mk ((Fr.of_below HD.out).trans (hf5.mono HD.out.size)); clear h5 hr5 hf5)
              all_goals go_wp2_with (fail)
              all_goals go_meet
              all_goals exact ⟨rfl, ⟨⟨_, BK5.out, Kd.R_mono (Kd.R_lower HR5.out HD.out.size) (fun k hk => Nat.le_trans HD.out.size hk)⟩⟩, FR5⟩
            case rest =>
              obtain ⟨rfl, ⟨u, hbk, hR⟩, FR⟩ := hcut
              obtain ⟨Au, cu, rfl⟩ := Kd.R_slice hR
              have HR := Aside0.mk hR
              clear hR
              have BK := Aside0.mk hbk
              have RB2 := Aside0.mk (FR.out.blk (blk_below RB.out HE.out) (Nat.le_refl _) (Nat.ne_of_lt GR.out))
              have HBC : Aside0 (Below w.heap.size w wc) := ⟨HBZ0.out.trans (FR.out.below HBZ0.out.size GB.out)⟩
              clear hbk
              go_wp2_with (first
                | (refine wpList_load_row rfl 24 (.tmp 6) rfl wo.heap.size rfl 24 (evC x (.slice Au x.f7.length cu)) (0, 0) _ BK.out Tryd.underlying24 rfl (by kernel_rfl) ?_)
                | (refine wpList_store_row rfl 24 (.tmp 2) (.tmp 32) rfl w.heap.size (evC x (.slice Au x.f7.length cu)) rfl rfl 24 _ RB2.out (by kernel_rfl) rfl (by kernel_rfl) ?_; have n9_ : Aside0 ((wc.setRow w.heap.size (evC x (.slice Au x.f7.length cu))).heap[w.heap.size]? = some (.cells (evC x (.slice Au x.f7.length cu)) 24 (0, 0))) := ⟨setRow_heap _ _ _ _ _ _ RB2.out⟩; have n8_ := Aside0.mk (below_setRow HBC.out (Nat.le_refl _) (evC x (.slice Au x.f7.length cu))); have n7_ := Aside0.mk (R_setRow HR.out RB2.out (by decide) (cs' := evC x (.slice Au x.f7.length cu))); generalize wc.setRow w.heap.size (evC x (.slice Au x.f7.length cu)) = wy at n9_ n8_ n7_ ⊢))
              refine bodyPost_ret (results_ct rfl _ _ w.heap.size 24 (evC x (.slice Au x.f7.length cu)) (0, 0) _ rfl n9_.out Tryd.underlying24 rfl (by kernel_rfl)) rfl ?_
              rw [HOS.out]
              exact ⟨Au, cu, rfl, Kd.R_mono (Kd.R_lower n7_.out HBZ0.out.size) (fun k hk => Nat.le_trans HBZ0.out.size hk.1), n8_.out⟩
          | none =>
            have HFO := Aside0.mk hfo
            have HOS : Aside0 (oneOf s = none) := ⟨by rw [HOF.out, HFO.out]⟩
            clear hfo
            go_cut [9] (fun v9 wc => v9 = .bool false ∧ Aside0 (∃ x A n c, wc.heap[wo.heap.size]? = some (.cells (evC x (.slice A n c)) 24 (0, 0))) ∧ Aside0 (Fr wy.heap.size wo.heap.size wy wc))
            case first =>
              go_still_tail 3, (by kernel_rfl)
              change wpList _ _ _ _ _ (World.drew wy)
              have HD := Aside0.mk (show Below wy.heap.size wy wy.drew from below_drew (Below.refl _ _))
              have BE4 : Aside0 (wy.drew.heap[wo.heap.size]? = some (.cells (evC ⟨k, 0, 0, 0, 0, 0, 0, []⟩ (.slice none 0 0)) 24 (0, 0))) := ⟨BE.out⟩
              have FF4 : Aside0 (∀ (j o : Nat), (foK k)[j]? = some o → ∃ ad, AF = some ad ∧ ad.block ≠ wo.heap.size ∧ wy.drew.cell? (ad.add j) = some (.pointer (some ⟨wo.heap.size, o, none⟩))) := ⟨FF.out⟩
              have WZ4 : Aside0 (WordsIn wy.drew wo.heap.size A1 tl) := ⟨WZ.out⟩
              have HBZ4 : Aside0 (Below w.heap.size w wy.drew) := ⟨below_drew HBZ0.out⟩
              generalize wy.drew = wd at HD BE4 FF4 WZ4 HBZ4 ⊢
              go_wp2_with (go_at_call 49; refine (fill_c0 k K1.out K2.out HCL.out wo.heap.size AF A1 tl.length tl _ w HL.out HBZ4.out GB.out BE4.out FF4.out WZ4.out (Nat.le_refl _) HCL0.out HSZ.out).mono ?_; rw [HFO.out]; rintro e w5 ⟨rfl, ⟨x5, A5, n5, c5, h5⟩, hf5⟩; have BK5 := Aside0.mk h5; have FR5 := Aside0.mk ((Fr.of_below HD.out).trans (hf5.mono HD.out.size)); clear h5 hf5)
              all_goals go_wp2_with (fail)
              all_goals go_meet
              all_goals exact ⟨rfl, ⟨⟨_, _, _, _, BK5.out⟩⟩, FR5⟩
            case rest =>
              obtain ⟨rfl, ⟨x, Au, nu, cu, hbk⟩, FR⟩ := hcut
              have BK := Aside0.mk hbk
              have RB2 := Aside0.mk (FR.out.blk (blk_below RB.out HE.out) (Nat.le_refl _) (Nat.ne_of_lt GR.out))
              have HBC : Aside0 (Below w.heap.size w wc) := ⟨HBZ0.out.trans (FR.out.below HBZ0.out.size GB.out)⟩
              clear hbk
              go_wp2_with (first
                | (refine wpList_load_row rfl 24 (.tmp 6) rfl wo.heap.size rfl 24 (evC x (.slice Au nu cu)) (0, 0) _ BK.out Tryd.underlying24 rfl (by kernel_rfl) ?_)
                | (refine wpList_store_row rfl 24 (.tmp 2) (.tmp 32) rfl w.heap.size (evC x (.slice Au nu cu)) rfl rfl 24 _ RB2.out (by kernel_rfl) rfl (by kernel_rfl) ?_; have n9_ : Aside0 ((wc.setRow w.heap.size (evC x (.slice Au nu cu))).heap[w.heap.size]? = some (.cells (evC x (.slice Au nu cu)) 24 (0, 0))) := ⟨setRow_heap _ _ _ _ _ _ RB2.out⟩; have n8_ := Aside0.mk (below_setRow HBC.out (Nat.le_refl _) (evC x (.slice Au nu cu))); generalize wc.setRow w.heap.size (evC x (.slice Au nu cu)) = wy at n9_ n8_ ⊢))
              refine bodyPost_ret (results_ct rfl _ _ w.heap.size 24 (evC x (.slice Au nu cu)) (0, 0) _ rfl n9_.out Tryd.underlying24 rfl (by kernel_rfl)) rfl ?_
              rw [HOS.out]
              exact ⟨⟨_, _, _, _, rfl⟩, n8_.out⟩
        · have he1 : ((wordB k).toList == hd.toList) = false := beq_eq_false_iff_ne.2 he
          have HKN : Aside0 (kindOf hd = kindFrom hd (12 - (k + 1)) (k + 1)) := ⟨by rw [HKS.out, if_neg he]⟩
          clear he
          go_upto_region 7 with (go_at_call 23; refine (form_c0 k K1.out K2.out HCL.out wo.heap.size (⟨k, 0, 0, 0, 0, 0, 0, []⟩ : S24) (.slice none 0 0) _ rfl (heap_alloc_new _ _)).mono ?_; rintro e w2 ⟨_, rfl, ⟨AF, rfl, hF⟩, hb⟩; have HE := Aside0.mk ((bel1 wo (.cells (evC (⟨k, 0, 0, 0, 0, 0, 0, []⟩ : S24) (.slice none 0 0)) 24)).trans (hb.mono (by rw [size_alloc]; omega))); clear hF hb)
          have BF := Aside0.mk (heap_alloc_new w2 (.cells #[.string (wordB k), .slice AF (foK k).length (foK k).length, .pointer none, .slice none 0 0, .pointer none, .bool (liK k)] 48))
          have HE2 := Aside0.mk (HE.out.trans ((bel1 w2 (.cells #[.string (wordB k), .slice AF (foK k).length (foK k).length, .pointer none, .slice none 0 0, .pointer none, .bool (liK k)] 48)).mono HE.out.size))
          generalize w2.heap.size = g7 at BF ⊢
          generalize w2.alloc (.cells #[.string (wordB k), .slice AF (foK k).length (foK k).length, .pointer none, .slice none 0 0, .pointer none, .bool (liK k)] 48) = wz at *
          have y0 : wz.cell? ⟨g7, 0, none⟩ = some (.string (wordB k)) := (blk_cell BF.out 0).trans rfl
          have s0 : wz.cell? ⟨w.heap.size + 1, 0, none⟩ = some (.string hd) := (blk_cell (blk_below SB.out HE2.out) 0).trans rfl
          go_quiet (fail)
          all_goals go_wp2_with (fail)
          all_goals go_roundw
          case rel => exact ⟨k + 1, by go_num, by omega, by omega, HKN, ⟨pw_below_drewN (below_then HB1.out HB1.out.size HE2.out) _⟩⟩
          case measure => simp [intOf]; omega
      · have HCL := Aside0.mk hcl
        clear hcl
        by_cases he : (wordB k).toList = hd.toList
        · have he1 : ((wordB k).toList == hd.toList) = true := beq_iff_eq.2 he
          have HOF : Aside0 (oneOf s = fillOf k tl) := ⟨by rw [HONE.out, HKS.out, if_pos he]; rfl⟩
          clear he
          have hsl0 := words_tail (w := wo) (g := wo.heap.size) (A := some ⟨w.heap.size + 1, 0, none⟩) (t := hd) (r := tl) ⟨fun ad h => by injection h with h; rw [← h]; exact Nat.ne_of_lt GS.out, fun j t hj => ⟨_, rfl, by rw [show (⟨w.heap.size + 1, 0, none⟩ : Addr).add j = ⟨w.heap.size + 1, j, none⟩ by simp [Addr.add]; exact Eq.symm, blk_cell SB.out j, List.getElem?_toArray, List.getElem?_map, hj]; rfl⟩⟩ (tl.length + 1) (Nat.le_refl _)
          obtain ⟨A1, hsl, hw1⟩ := hsl0
          have WS := Aside0.mk hw1
          clear hw1
          go_upto_region 7 with (go_at_call 23; refine (form_c1 k K1.out K2.out HCL.out wo.heap.size (⟨k, 0, 0, 0, 0, 0, 0, []⟩ : S24) (.slice none 0 0) _ rfl (heap_alloc_new _ _)).mono ?_; rintro e w2 ⟨_, rfl, ⟨AF, rfl, hF⟩, hb⟩; have BE := Aside0.mk (blk_below (heap_alloc_new wo (.cells (evC (⟨k, 0, 0, 0, 0, 0, 0, []⟩ : S24) (.slice none 0 0)) 24)) hb); have FF := Aside0.mk hF; have HE := Aside0.mk ((bel1 wo (.cells (evC (⟨k, 0, 0, 0, 0, 0, 0, []⟩ : S24) (.slice none 0 0)) 24)).trans (hb.mono (by rw [size_alloc]; omega))); clear hF hb)
          have BF := Aside0.mk (heap_alloc_new w2 (.cells #[.string (wordB k), .slice AF (foK k).length (foK k).length, .pointer (some ⟨wo.heap.size, 6, none⟩), .slice none 0 0, .pointer none, .bool false] 48))
          have BE2 := Aside0.mk (blk_below BE.out (bel1 w2 (.cells #[.string (wordB k), .slice AF (foK k).length (foK k).length, .pointer (some ⟨wo.heap.size, 6, none⟩), .slice none 0 0, .pointer none, .bool false] 48)))
          have FF2 := Aside0.mk (fun j o hj => by obtain ⟨ad, e1, e2, e3⟩ := FF.out j o hj; exact ⟨ad, e1, e2, pw_cell_below (bel1 w2 (.cells #[.string (wordB k), .slice AF (foK k).length (foK k).length, .pointer (some ⟨wo.heap.size, 6, none⟩), .slice none 0 0, .pointer none, .bool false] 48)) e3⟩ : ∀ (j o : Nat), (foK k)[j]? = some o → ∃ ad, AF = some ad ∧ ad.block ≠ wo.heap.size ∧ (w2.alloc (.cells #[.string (wordB k), .slice AF (foK k).length (foK k).length, .pointer (some ⟨wo.heap.size, 6, none⟩), .slice none 0 0, .pointer none, .bool false] 48)).cell? (ad.add j) = some (.pointer (some ⟨wo.heap.size, o, none⟩)))
          have HE2 := Aside0.mk (HE.out.trans ((bel1 w2 (.cells #[.string (wordB k), .slice AF (foK k).length (foK k).length, .pointer (some ⟨wo.heap.size, 6, none⟩), .slice none 0 0, .pointer none, .bool false] 48)).mono HE.out.size))
          clear BE FF HE
          generalize w2.heap.size = g7 at BF ⊢
          generalize w2.alloc (.cells #[.string (wordB k), .slice AF (foK k).length (foK k).length, .pointer (some ⟨wo.heap.size, 6, none⟩), .slice none 0 0, .pointer none, .bool false] 48) = wz at *
          have BE := BE2
          have FF := FF2
          have HE := HE2
          clear BE2 FF2 HE2
          have WZ := Aside0.mk (WS.out.below HE.out)
          have y0 : wz.cell? ⟨g7, 0, none⟩ = some (.string (wordB k)) := (blk_cell BF.out 0).trans rfl
          have s0 : wz.cell? ⟨w.heap.size + 1, 0, none⟩ = some (.string hd) := (blk_cell (blk_below SB.out HE.out) 0).trans rfl
          go_quiet (fail)
          all_goals go_wp2_with (fail)
          obtain ⟨wy, hwy⟩ : ∃ wy, wy = wz.drewN nq := ⟨_, rfl⟩
          rw [← hwy]
          have hY : Below wz.heap.size wz wy := by rw [hwy]; exact pw_below_drewN (Below.refl _ _) _
          have BE3 := Aside0.mk (blk_below BE.out hY)
          have BF3 := Aside0.mk (blk_below BF.out hY)
          have WZ3 := Aside0.mk (WZ.out.below hY)
          have HE3 := Aside0.mk (HE.out.trans (hY.mono HE.out.size))
          have FF3 := Aside0.mk (fun j o hj => by obtain ⟨ad, e1, e2, e3⟩ := FF.out j o hj; exact ⟨ad, e1, e2, pw_cell_below hY e3⟩ : ∀ (j o : Nat), (foK k)[j]? = some o → ∃ ad, AF = some ad ∧ ad.block ≠ wo.heap.size ∧ wy.cell? (ad.add j) = some (.pointer (some ⟨wo.heap.size, o, none⟩)))
          clear y0 s0 BE BF WZ HE FF hwy hY
          have BE := BE3
          have BF := BF3
          have WZ := WZ3
          have HE := HE3
          have FF := FF3
          clear BE3 BF3 WZ3 HE3 FF3
          have HBZ0 : Aside0 (Below w.heap.size w wy) := ⟨HB.out.trans ((below_then HB1.out HB1.out.size HE.out).mono HB.out.size)⟩
          have HBZ : Aside0 (∀ q, Below w.heap.size w (wy.drewN q)) := ⟨fun q => pw_below_drewN HBZ0.out q⟩
          have GB : Aside0 (w.heap.size ≤ wo.heap.size) := ⟨Nat.le_trans HB.out.size HB1.out.size⟩
          have y0 : wy.cell? ⟨g7, 0, none⟩ = some (.string (wordB k)) := (blk_cell BF.out 0).trans rfl
          have y1 : wy.cell? ⟨g7, 1, none⟩ = some (.slice AF (foK k).length (foK k).length) := (blk_cell BF.out 1).trans rfl
          have y2 : wy.cell? ⟨g7, 2, none⟩ = some (.pointer (some ⟨wo.heap.size, 6, none⟩)) := (blk_cell BF.out 2).trans rfl
          have y3 : wy.cell? ⟨g7, 3, none⟩ = some (.slice none 0 0) := (blk_cell BF.out 3).trans rfl
          have y4 : wy.cell? ⟨g7, 4, none⟩ = some (.pointer none) := (blk_cell BF.out 4).trans rfl
          have y5 : wy.cell? ⟨g7, 5, none⟩ = some (.bool false) := (blk_cell BF.out 5).trans rfl
          cases hfo : fillOf k tl with
          | some x =>
            have HFO := Aside0.mk hfo
            have HOS : Aside0 (oneOf s = some x) := ⟨by rw [HOF.out, HFO.out]⟩
            clear hfo
            go_cut [9] (fun v9 wc => v9 = .bool true ∧ Aside0 (∃ u, wc.heap[wo.heap.size]? = some (.cells (evC x u) 24 (0, 0)) ∧ Kd.R (Kd.int .i64) 3 wc wy.heap.size (fun k => wy.heap.size ≤ k) u x.f7) ∧ Aside0 (Fr wy.heap.size wo.heap.size wy wc))
            case first =>
              go_still_tail 3, (by kernel_rfl)
              change wpList _ _ _ _ _ (World.drew wy)
              have HD := Aside0.mk (show Below wy.heap.size wy wy.drew from below_drew (Below.refl _ _))
              have BE4 : Aside0 (wy.drew.heap[wo.heap.size]? = some (.cells (evC ⟨k, 0, 0, 0, 0, 0, 0, []⟩ (.slice none 0 0)) 24 (0, 0))) := ⟨BE.out⟩
              have FF4 : Aside0 (∀ (j o : Nat), (foK k)[j]? = some o → ∃ ad, AF = some ad ∧ ad.block ≠ wo.heap.size ∧ wy.drew.cell? (ad.add j) = some (.pointer (some ⟨wo.heap.size, o, none⟩))) := ⟨FF.out⟩
              have WZ4 : Aside0 (WordsIn wy.drew wo.heap.size A1 tl) := ⟨WZ.out⟩
              have HBZ4 : Aside0 (Below w.heap.size w wy.drew) := ⟨below_drew HBZ0.out⟩
              generalize wy.drew = wd at HD BE4 FF4 WZ4 HBZ4 ⊢
              go_wp2_with (go_at_call 49; refine (fill_c1 k K1.out K2.out HCL.out wo.heap.size AF A1 tl.length tl _ w HL.out HBZ4.out GB.out BE4.out FF4.out WZ4.out (Nat.le_refl _) HCL0.out HSZ.out).mono ?_; rw [HFO.out]; rintro e w5 ⟨rfl, ⟨u5, h5, hr5⟩, hf5⟩; have BK5 := Aside0.mk h5; have HR5 := Aside0.mk hr5; have FR5 := Aside0.mk ((Fr.of_below HD.out).trans (hf5.mono HD.out.size)); clear h5 hr5 hf5)
              all_goals go_wp2_with (fail)
              all_goals go_meet
              all_goals exact ⟨rfl, ⟨⟨_, BK5.out, Kd.R_mono (Kd.R_lower HR5.out HD.out.size) (fun k hk => Nat.le_trans HD.out.size hk)⟩⟩, FR5⟩
            case rest =>
              obtain ⟨rfl, ⟨u, hbk, hR⟩, FR⟩ := hcut
              obtain ⟨Au, cu, rfl⟩ := Kd.R_slice hR
              have HR := Aside0.mk hR
              clear hR
              have BK := Aside0.mk hbk
              have RB2 := Aside0.mk (FR.out.blk (blk_below RB.out HE.out) (Nat.le_refl _) (Nat.ne_of_lt GR.out))
              have HBC : Aside0 (Below w.heap.size w wc) := ⟨HBZ0.out.trans (FR.out.below HBZ0.out.size GB.out)⟩
              clear hbk
              go_wp2_with (first
                | (refine wpList_load_row rfl 24 (.tmp 6) rfl wo.heap.size rfl 24 (evC x (.slice Au x.f7.length cu)) (0, 0) _ BK.out Tryd.underlying24 rfl (by kernel_rfl) ?_)
                | (refine wpList_store_row rfl 24 (.tmp 2) (.tmp 32) rfl w.heap.size (evC x (.slice Au x.f7.length cu)) rfl rfl 24 _ RB2.out (by kernel_rfl) rfl (by kernel_rfl) ?_; have n9_ : Aside0 ((wc.setRow w.heap.size (evC x (.slice Au x.f7.length cu))).heap[w.heap.size]? = some (.cells (evC x (.slice Au x.f7.length cu)) 24 (0, 0))) := ⟨setRow_heap _ _ _ _ _ _ RB2.out⟩; have n8_ := Aside0.mk (below_setRow HBC.out (Nat.le_refl _) (evC x (.slice Au x.f7.length cu))); have n7_ := Aside0.mk (R_setRow HR.out RB2.out (by decide) (cs' := evC x (.slice Au x.f7.length cu))); generalize wc.setRow w.heap.size (evC x (.slice Au x.f7.length cu)) = wy at n9_ n8_ n7_ ⊢))
              refine bodyPost_ret (results_ct rfl _ _ w.heap.size 24 (evC x (.slice Au x.f7.length cu)) (0, 0) _ rfl n9_.out Tryd.underlying24 rfl (by kernel_rfl)) rfl ?_
              rw [HOS.out]
              exact ⟨Au, cu, rfl, Kd.R_mono (Kd.R_lower n7_.out HBZ0.out.size) (fun k hk => Nat.le_trans HBZ0.out.size hk.1), n8_.out⟩
          | none =>
            have HFO := Aside0.mk hfo
            have HOS : Aside0 (oneOf s = none) := ⟨by rw [HOF.out, HFO.out]⟩
            clear hfo
            go_cut [9] (fun v9 wc => v9 = .bool false ∧ Aside0 (∃ x A n c, wc.heap[wo.heap.size]? = some (.cells (evC x (.slice A n c)) 24 (0, 0))) ∧ Aside0 (Fr wy.heap.size wo.heap.size wy wc))
            case first =>
              go_still_tail 3, (by kernel_rfl)
              change wpList _ _ _ _ _ (World.drew wy)
              have HD := Aside0.mk (show Below wy.heap.size wy wy.drew from below_drew (Below.refl _ _))
              have BE4 : Aside0 (wy.drew.heap[wo.heap.size]? = some (.cells (evC ⟨k, 0, 0, 0, 0, 0, 0, []⟩ (.slice none 0 0)) 24 (0, 0))) := ⟨BE.out⟩
              have FF4 : Aside0 (∀ (j o : Nat), (foK k)[j]? = some o → ∃ ad, AF = some ad ∧ ad.block ≠ wo.heap.size ∧ wy.drew.cell? (ad.add j) = some (.pointer (some ⟨wo.heap.size, o, none⟩))) := ⟨FF.out⟩
              have WZ4 : Aside0 (WordsIn wy.drew wo.heap.size A1 tl) := ⟨WZ.out⟩
              have HBZ4 : Aside0 (Below w.heap.size w wy.drew) := ⟨below_drew HBZ0.out⟩
              generalize wy.drew = wd at HD BE4 FF4 WZ4 HBZ4 ⊢
              go_wp2_with (go_at_call 49; refine (fill_c1 k K1.out K2.out HCL.out wo.heap.size AF A1 tl.length tl _ w HL.out HBZ4.out GB.out BE4.out FF4.out WZ4.out (Nat.le_refl _) HCL0.out HSZ.out).mono ?_; rw [HFO.out]; rintro e w5 ⟨rfl, ⟨x5, A5, n5, c5, h5⟩, hf5⟩; have BK5 := Aside0.mk h5; have FR5 := Aside0.mk ((Fr.of_below HD.out).trans (hf5.mono HD.out.size)); clear h5 hf5)
              all_goals go_wp2_with (fail)
              all_goals go_meet
              all_goals exact ⟨rfl, ⟨⟨_, _, _, _, BK5.out⟩⟩, FR5⟩
            case rest =>
              obtain ⟨rfl, ⟨x, Au, nu, cu, hbk⟩, FR⟩ := hcut
              have BK := Aside0.mk hbk
              have RB2 := Aside0.mk (FR.out.blk (blk_below RB.out HE.out) (Nat.le_refl _) (Nat.ne_of_lt GR.out))
              have HBC : Aside0 (Below w.heap.size w wc) := ⟨HBZ0.out.trans (FR.out.below HBZ0.out.size GB.out)⟩
              clear hbk
              go_wp2_with (first
                | (refine wpList_load_row rfl 24 (.tmp 6) rfl wo.heap.size rfl 24 (evC x (.slice Au nu cu)) (0, 0) _ BK.out Tryd.underlying24 rfl (by kernel_rfl) ?_)
                | (refine wpList_store_row rfl 24 (.tmp 2) (.tmp 32) rfl w.heap.size (evC x (.slice Au nu cu)) rfl rfl 24 _ RB2.out (by kernel_rfl) rfl (by kernel_rfl) ?_; have n9_ : Aside0 ((wc.setRow w.heap.size (evC x (.slice Au nu cu))).heap[w.heap.size]? = some (.cells (evC x (.slice Au nu cu)) 24 (0, 0))) := ⟨setRow_heap _ _ _ _ _ _ RB2.out⟩; have n8_ := Aside0.mk (below_setRow HBC.out (Nat.le_refl _) (evC x (.slice Au nu cu))); generalize wc.setRow w.heap.size (evC x (.slice Au nu cu)) = wy at n9_ n8_ ⊢))
              refine bodyPost_ret (results_ct rfl _ _ w.heap.size 24 (evC x (.slice Au nu cu)) (0, 0) _ rfl n9_.out Tryd.underlying24 rfl (by kernel_rfl)) rfl ?_
              rw [HOS.out]
              exact ⟨⟨_, _, _, _, rfl⟩, n8_.out⟩
        · have he1 : ((wordB k).toList == hd.toList) = false := beq_eq_false_iff_ne.2 he
          have HKN : Aside0 (kindOf hd = kindFrom hd (12 - (k + 1)) (k + 1)) := ⟨by rw [HKS.out, if_neg he]⟩
          clear he
          go_upto_region 7 with (go_at_call 23; refine (form_c1 k K1.out K2.out HCL.out wo.heap.size (⟨k, 0, 0, 0, 0, 0, 0, []⟩ : S24) (.slice none 0 0) _ rfl (heap_alloc_new _ _)).mono ?_; rintro e w2 ⟨_, rfl, ⟨AF, rfl, hF⟩, hb⟩; have HE := Aside0.mk ((bel1 wo (.cells (evC (⟨k, 0, 0, 0, 0, 0, 0, []⟩ : S24) (.slice none 0 0)) 24)).trans (hb.mono (by rw [size_alloc]; omega))); clear hF hb)
          have BF := Aside0.mk (heap_alloc_new w2 (.cells #[.string (wordB k), .slice AF (foK k).length (foK k).length, .pointer (some ⟨wo.heap.size, 6, none⟩), .slice none 0 0, .pointer none, .bool false] 48))
          have HE2 := Aside0.mk (HE.out.trans ((bel1 w2 (.cells #[.string (wordB k), .slice AF (foK k).length (foK k).length, .pointer (some ⟨wo.heap.size, 6, none⟩), .slice none 0 0, .pointer none, .bool false] 48)).mono HE.out.size))
          generalize w2.heap.size = g7 at BF ⊢
          generalize w2.alloc (.cells #[.string (wordB k), .slice AF (foK k).length (foK k).length, .pointer (some ⟨wo.heap.size, 6, none⟩), .slice none 0 0, .pointer none, .bool false] 48) = wz at *
          have y0 : wz.cell? ⟨g7, 0, none⟩ = some (.string (wordB k)) := (blk_cell BF.out 0).trans rfl
          have s0 : wz.cell? ⟨w.heap.size + 1, 0, none⟩ = some (.string hd) := (blk_cell (blk_below SB.out HE2.out) 0).trans rfl
          go_quiet (fail)
          all_goals go_wp2_with (fail)
          all_goals go_roundw
          case rel => exact ⟨k + 1, by go_num, by omega, by omega, HKN, ⟨pw_below_drewN (below_then HB1.out HB1.out.size HE2.out) _⟩⟩
          case measure => simp [intOf]; omega
      · have HCL := Aside0.mk hcl
        clear hcl
        by_cases he : (wordB k).toList = hd.toList
        · have he1 : ((wordB k).toList == hd.toList) = true := beq_iff_eq.2 he
          have HOF : Aside0 (oneOf s = fillOf k tl) := ⟨by rw [HONE.out, HKS.out, if_pos he]; rfl⟩
          clear he
          have hsl0 := words_tail (w := wo) (g := wo.heap.size) (A := some ⟨w.heap.size + 1, 0, none⟩) (t := hd) (r := tl) ⟨fun ad h => by injection h with h; rw [← h]; exact Nat.ne_of_lt GS.out, fun j t hj => ⟨_, rfl, by rw [show (⟨w.heap.size + 1, 0, none⟩ : Addr).add j = ⟨w.heap.size + 1, j, none⟩ by simp [Addr.add]; exact Eq.symm, blk_cell SB.out j, List.getElem?_toArray, List.getElem?_map, hj]; rfl⟩⟩ (tl.length + 1) (Nat.le_refl _)
          obtain ⟨A1, hsl, hw1⟩ := hsl0
          have WS := Aside0.mk hw1
          clear hw1
          go_upto_region 7 with (go_at_call 23; refine (form_c2 k K1.out K2.out HCL.out wo.heap.size (⟨k, 0, 0, 0, 0, 0, 0, []⟩ : S24) (.slice none 0 0) _ rfl (heap_alloc_new _ _)).mono ?_; rintro e w2 ⟨_, bW, rfl, ⟨AF, rfl, hF⟩, hW, hb⟩; have BE := Aside0.mk (blk_below (heap_alloc_new wo (.cells (evC (⟨k, 0, 0, 0, 0, 0, 0, []⟩ : S24) (.slice none 0 0)) 24)) hb); have BW := Aside0.mk hW; have NW : Aside0 (bW ≠ wo.heap.size) := ⟨by rintro rfl; have h1 := hW.symm.trans BE.out; injection h1 with h1; injection h1 with _ h2 _; cases h2⟩; clear hW; have FF := Aside0.mk hF; have HE := Aside0.mk ((bel1 wo (.cells (evC (⟨k, 0, 0, 0, 0, 0, 0, []⟩ : S24) (.slice none 0 0)) 24)).trans (hb.mono (by rw [size_alloc]; omega))); clear hF hb)
          have BF := Aside0.mk (heap_alloc_new w2 (.cells #[.string (wordB k), .slice AF (foK k).length (foK k).length, .pointer none, .slice (some ⟨bW, 0, none⟩) (wsK k).length (wsK k).length, .pointer (some ⟨wo.heap.size, 6, none⟩), .bool false] 48))
          have BE2 := Aside0.mk (blk_below BE.out (bel1 w2 (.cells #[.string (wordB k), .slice AF (foK k).length (foK k).length, .pointer none, .slice (some ⟨bW, 0, none⟩) (wsK k).length (wsK k).length, .pointer (some ⟨wo.heap.size, 6, none⟩), .bool false] 48)))
          have FF2 := Aside0.mk (fun j o hj => by obtain ⟨ad, e1, e2, e3⟩ := FF.out j o hj; exact ⟨ad, e1, e2, pw_cell_below (bel1 w2 (.cells #[.string (wordB k), .slice AF (foK k).length (foK k).length, .pointer none, .slice (some ⟨bW, 0, none⟩) (wsK k).length (wsK k).length, .pointer (some ⟨wo.heap.size, 6, none⟩), .bool false] 48)) e3⟩ : ∀ (j o : Nat), (foK k)[j]? = some o → ∃ ad, AF = some ad ∧ ad.block ≠ wo.heap.size ∧ (w2.alloc (.cells #[.string (wordB k), .slice AF (foK k).length (foK k).length, .pointer none, .slice (some ⟨bW, 0, none⟩) (wsK k).length (wsK k).length, .pointer (some ⟨wo.heap.size, 6, none⟩), .bool false] 48)).cell? (ad.add j) = some (.pointer (some ⟨wo.heap.size, o, none⟩)))
          have HE2 := Aside0.mk (HE.out.trans ((bel1 w2 (.cells #[.string (wordB k), .slice AF (foK k).length (foK k).length, .pointer none, .slice (some ⟨bW, 0, none⟩) (wsK k).length (wsK k).length, .pointer (some ⟨wo.heap.size, 6, none⟩), .bool false] 48)).mono HE.out.size))
          have BW2 := Aside0.mk (blk_below BW.out (bel1 w2 (.cells #[.string (wordB k), .slice AF (foK k).length (foK k).length, .pointer none, .slice (some ⟨bW, 0, none⟩) (wsK k).length (wsK k).length, .pointer (some ⟨wo.heap.size, 6, none⟩), .bool false] 48)))
          clear BW
          have BW := BW2
          clear BW2
          clear BE FF HE
          generalize w2.heap.size = g7 at BF ⊢
          generalize w2.alloc (.cells #[.string (wordB k), .slice AF (foK k).length (foK k).length, .pointer none, .slice (some ⟨bW, 0, none⟩) (wsK k).length (wsK k).length, .pointer (some ⟨wo.heap.size, 6, none⟩), .bool false] 48) = wz at *
          have BE := BE2
          have FF := FF2
          have HE := HE2
          clear BE2 FF2 HE2
          have WZ := Aside0.mk (WS.out.below HE.out)
          have y0 : wz.cell? ⟨g7, 0, none⟩ = some (.string (wordB k)) := (blk_cell BF.out 0).trans rfl
          have s0 : wz.cell? ⟨w.heap.size + 1, 0, none⟩ = some (.string hd) := (blk_cell (blk_below SB.out HE.out) 0).trans rfl
          go_quiet (fail)
          all_goals go_wp2_with (fail)
          obtain ⟨wy, hwy⟩ : ∃ wy, wy = wz.drewN nq := ⟨_, rfl⟩
          rw [← hwy]
          have hY : Below wz.heap.size wz wy := by rw [hwy]; exact pw_below_drewN (Below.refl _ _) _
          have BE3 := Aside0.mk (blk_below BE.out hY)
          have BF3 := Aside0.mk (blk_below BF.out hY)
          have WZ3 := Aside0.mk (WZ.out.below hY)
          have HE3 := Aside0.mk (HE.out.trans (hY.mono HE.out.size))
          have FF3 := Aside0.mk (fun j o hj => by obtain ⟨ad, e1, e2, e3⟩ := FF.out j o hj; exact ⟨ad, e1, e2, pw_cell_below hY e3⟩ : ∀ (j o : Nat), (foK k)[j]? = some o → ∃ ad, AF = some ad ∧ ad.block ≠ wo.heap.size ∧ wy.cell? (ad.add j) = some (.pointer (some ⟨wo.heap.size, o, none⟩)))
          have BW3 := Aside0.mk (blk_below BW.out hY)
          clear BW
          have BW := BW3
          clear BW3
          clear y0 s0 BE BF WZ HE FF hwy hY
          have BE := BE3
          have BF := BF3
          have WZ := WZ3
          have HE := HE3
          have FF := FF3
          clear BE3 BF3 WZ3 HE3 FF3
          have HBZ0 : Aside0 (Below w.heap.size w wy) := ⟨HB.out.trans ((below_then HB1.out HB1.out.size HE.out).mono HB.out.size)⟩
          have HBZ : Aside0 (∀ q, Below w.heap.size w (wy.drewN q)) := ⟨fun q => pw_below_drewN HBZ0.out q⟩
          have GB : Aside0 (w.heap.size ≤ wo.heap.size) := ⟨Nat.le_trans HB.out.size HB1.out.size⟩
          have y0 : wy.cell? ⟨g7, 0, none⟩ = some (.string (wordB k)) := (blk_cell BF.out 0).trans rfl
          have y1 : wy.cell? ⟨g7, 1, none⟩ = some (.slice AF (foK k).length (foK k).length) := (blk_cell BF.out 1).trans rfl
          have y2 : wy.cell? ⟨g7, 2, none⟩ = some (.pointer none) := (blk_cell BF.out 2).trans rfl
          have y3 : wy.cell? ⟨g7, 3, none⟩ = some (.slice (some ⟨bW, 0, none⟩) (wsK k).length (wsK k).length) := (blk_cell BF.out 3).trans rfl
          have y4 : wy.cell? ⟨g7, 4, none⟩ = some (.pointer (some ⟨wo.heap.size, 6, none⟩)) := (blk_cell BF.out 4).trans rfl
          have y5 : wy.cell? ⟨g7, 5, none⟩ = some (.bool false) := (blk_cell BF.out 5).trans rfl
          cases hfo : fillOf k tl with
          | some x =>
            have HFO := Aside0.mk hfo
            have HOS : Aside0 (oneOf s = some x) := ⟨by rw [HOF.out, HFO.out]⟩
            clear hfo
            go_cut [9] (fun v9 wc => v9 = .bool true ∧ Aside0 (∃ u, wc.heap[wo.heap.size]? = some (.cells (evC x u) 24 (0, 0)) ∧ Kd.R (Kd.int .i64) 3 wc wy.heap.size (fun k => wy.heap.size ≤ k) u x.f7) ∧ Aside0 (Fr wy.heap.size wo.heap.size wy wc))
            case first =>
              go_still_tail 3, (by kernel_rfl)
              change wpList _ _ _ _ _ (World.drew wy)
              have HD := Aside0.mk (show Below wy.heap.size wy wy.drew from below_drew (Below.refl _ _))
              have BE4 : Aside0 (wy.drew.heap[wo.heap.size]? = some (.cells (evC ⟨k, 0, 0, 0, 0, 0, 0, []⟩ (.slice none 0 0)) 24 (0, 0))) := ⟨BE.out⟩
              have FF4 : Aside0 (∀ (j o : Nat), (foK k)[j]? = some o → ∃ ad, AF = some ad ∧ ad.block ≠ wo.heap.size ∧ wy.drew.cell? (ad.add j) = some (.pointer (some ⟨wo.heap.size, o, none⟩))) := ⟨FF.out⟩
              have WZ4 : Aside0 (WordsIn wy.drew wo.heap.size A1 tl) := ⟨WZ.out⟩
              have HBZ4 : Aside0 (Below w.heap.size w wy.drew) := ⟨below_drew HBZ0.out⟩
              have BW4 : Aside0 (wy.drew.heap[bW]? = some (.cells ((wsK k).map Value.string).toArray 9 (0, 0))) := ⟨BW.out⟩
              generalize wy.drew = wd at HD BE4 FF4 WZ4 HBZ4 BW4 ⊢
              go_wp2_with (go_at_call 49; refine (fill_c2 k K1.out K2.out HCL.out wo.heap.size AF A1 tl.length bW tl _ w HL.out HBZ4.out GB.out BE4.out FF4.out BW4.out NW.out WZ4.out (Nat.le_refl _) HCL0.out HSZ.out).mono ?_; rw [HFO.out]; rintro e w5 ⟨rfl, ⟨u5, h5, hr5⟩, hf5⟩; have BK5 := Aside0.mk h5; have HR5 := Aside0.mk hr5; have FR5 := Aside0.mk ((Fr.of_below HD.out).trans (hf5.mono HD.out.size)); clear h5 hr5 hf5)
              all_goals go_wp2_with (fail)
              all_goals go_meet
              all_goals exact ⟨rfl, ⟨⟨_, BK5.out, Kd.R_mono (Kd.R_lower HR5.out HD.out.size) (fun k hk => Nat.le_trans HD.out.size hk)⟩⟩, FR5⟩
            case rest =>
              obtain ⟨rfl, ⟨u, hbk, hR⟩, FR⟩ := hcut
              obtain ⟨Au, cu, rfl⟩ := Kd.R_slice hR
              have HR := Aside0.mk hR
              clear hR
              have BK := Aside0.mk hbk
              have RB2 := Aside0.mk (FR.out.blk (blk_below RB.out HE.out) (Nat.le_refl _) (Nat.ne_of_lt GR.out))
              have HBC : Aside0 (Below w.heap.size w wc) := ⟨HBZ0.out.trans (FR.out.below HBZ0.out.size GB.out)⟩
              clear hbk
              go_wp2_with (first
                | (refine wpList_load_row rfl 24 (.tmp 6) rfl wo.heap.size rfl 24 (evC x (.slice Au x.f7.length cu)) (0, 0) _ BK.out Tryd.underlying24 rfl (by kernel_rfl) ?_)
                | (refine wpList_store_row rfl 24 (.tmp 2) (.tmp 32) rfl w.heap.size (evC x (.slice Au x.f7.length cu)) rfl rfl 24 _ RB2.out (by kernel_rfl) rfl (by kernel_rfl) ?_; have n9_ : Aside0 ((wc.setRow w.heap.size (evC x (.slice Au x.f7.length cu))).heap[w.heap.size]? = some (.cells (evC x (.slice Au x.f7.length cu)) 24 (0, 0))) := ⟨setRow_heap _ _ _ _ _ _ RB2.out⟩; have n8_ := Aside0.mk (below_setRow HBC.out (Nat.le_refl _) (evC x (.slice Au x.f7.length cu))); have n7_ := Aside0.mk (R_setRow HR.out RB2.out (by decide) (cs' := evC x (.slice Au x.f7.length cu))); generalize wc.setRow w.heap.size (evC x (.slice Au x.f7.length cu)) = wy at n9_ n8_ n7_ ⊢))
              refine bodyPost_ret (results_ct rfl _ _ w.heap.size 24 (evC x (.slice Au x.f7.length cu)) (0, 0) _ rfl n9_.out Tryd.underlying24 rfl (by kernel_rfl)) rfl ?_
              rw [HOS.out]
              exact ⟨Au, cu, rfl, Kd.R_mono (Kd.R_lower n7_.out HBZ0.out.size) (fun k hk => Nat.le_trans HBZ0.out.size hk.1), n8_.out⟩
          | none =>
            have HFO := Aside0.mk hfo
            have HOS : Aside0 (oneOf s = none) := ⟨by rw [HOF.out, HFO.out]⟩
            clear hfo
            go_cut [9] (fun v9 wc => v9 = .bool false ∧ Aside0 (∃ x A n c, wc.heap[wo.heap.size]? = some (.cells (evC x (.slice A n c)) 24 (0, 0))) ∧ Aside0 (Fr wy.heap.size wo.heap.size wy wc))
            case first =>
              go_still_tail 3, (by kernel_rfl)
              change wpList _ _ _ _ _ (World.drew wy)
              have HD := Aside0.mk (show Below wy.heap.size wy wy.drew from below_drew (Below.refl _ _))
              have BE4 : Aside0 (wy.drew.heap[wo.heap.size]? = some (.cells (evC ⟨k, 0, 0, 0, 0, 0, 0, []⟩ (.slice none 0 0)) 24 (0, 0))) := ⟨BE.out⟩
              have FF4 : Aside0 (∀ (j o : Nat), (foK k)[j]? = some o → ∃ ad, AF = some ad ∧ ad.block ≠ wo.heap.size ∧ wy.drew.cell? (ad.add j) = some (.pointer (some ⟨wo.heap.size, o, none⟩))) := ⟨FF.out⟩
              have WZ4 : Aside0 (WordsIn wy.drew wo.heap.size A1 tl) := ⟨WZ.out⟩
              have HBZ4 : Aside0 (Below w.heap.size w wy.drew) := ⟨below_drew HBZ0.out⟩
              have BW4 : Aside0 (wy.drew.heap[bW]? = some (.cells ((wsK k).map Value.string).toArray 9 (0, 0))) := ⟨BW.out⟩
              generalize wy.drew = wd at HD BE4 FF4 WZ4 HBZ4 BW4 ⊢
              go_wp2_with (go_at_call 49; refine (fill_c2 k K1.out K2.out HCL.out wo.heap.size AF A1 tl.length bW tl _ w HL.out HBZ4.out GB.out BE4.out FF4.out BW4.out NW.out WZ4.out (Nat.le_refl _) HCL0.out HSZ.out).mono ?_; rw [HFO.out]; rintro e w5 ⟨rfl, ⟨x5, A5, n5, c5, h5⟩, hf5⟩; have BK5 := Aside0.mk h5; have FR5 := Aside0.mk ((Fr.of_below HD.out).trans (hf5.mono HD.out.size)); clear h5 hf5)
              all_goals go_wp2_with (fail)
              all_goals go_meet
              all_goals exact ⟨rfl, ⟨⟨_, _, _, _, BK5.out⟩⟩, FR5⟩
            case rest =>
              obtain ⟨rfl, ⟨x, Au, nu, cu, hbk⟩, FR⟩ := hcut
              have BK := Aside0.mk hbk
              have RB2 := Aside0.mk (FR.out.blk (blk_below RB.out HE.out) (Nat.le_refl _) (Nat.ne_of_lt GR.out))
              have HBC : Aside0 (Below w.heap.size w wc) := ⟨HBZ0.out.trans (FR.out.below HBZ0.out.size GB.out)⟩
              clear hbk
              go_wp2_with (first
                | (refine wpList_load_row rfl 24 (.tmp 6) rfl wo.heap.size rfl 24 (evC x (.slice Au nu cu)) (0, 0) _ BK.out Tryd.underlying24 rfl (by kernel_rfl) ?_)
                | (refine wpList_store_row rfl 24 (.tmp 2) (.tmp 32) rfl w.heap.size (evC x (.slice Au nu cu)) rfl rfl 24 _ RB2.out (by kernel_rfl) rfl (by kernel_rfl) ?_; have n9_ : Aside0 ((wc.setRow w.heap.size (evC x (.slice Au nu cu))).heap[w.heap.size]? = some (.cells (evC x (.slice Au nu cu)) 24 (0, 0))) := ⟨setRow_heap _ _ _ _ _ _ RB2.out⟩; have n8_ := Aside0.mk (below_setRow HBC.out (Nat.le_refl _) (evC x (.slice Au nu cu))); generalize wc.setRow w.heap.size (evC x (.slice Au nu cu)) = wy at n9_ n8_ ⊢))
              refine bodyPost_ret (results_ct rfl _ _ w.heap.size 24 (evC x (.slice Au nu cu)) (0, 0) _ rfl n9_.out Tryd.underlying24 rfl (by kernel_rfl)) rfl ?_
              rw [HOS.out]
              exact ⟨⟨_, _, _, _, rfl⟩, n8_.out⟩
        · have he1 : ((wordB k).toList == hd.toList) = false := beq_eq_false_iff_ne.2 he
          have HKN : Aside0 (kindOf hd = kindFrom hd (12 - (k + 1)) (k + 1)) := ⟨by rw [HKS.out, if_neg he]⟩
          clear he
          go_upto_region 7 with (go_at_call 23; refine (form_c2 k K1.out K2.out HCL.out wo.heap.size (⟨k, 0, 0, 0, 0, 0, 0, []⟩ : S24) (.slice none 0 0) _ rfl (heap_alloc_new _ _)).mono ?_; rintro e w2 ⟨_, bW, rfl, ⟨AF, rfl, hF⟩, hW, hb⟩; have HE := Aside0.mk ((bel1 wo (.cells (evC (⟨k, 0, 0, 0, 0, 0, 0, []⟩ : S24) (.slice none 0 0)) 24)).trans (hb.mono (by rw [size_alloc]; omega))); clear hF hb)
          have BF := Aside0.mk (heap_alloc_new w2 (.cells #[.string (wordB k), .slice AF (foK k).length (foK k).length, .pointer none, .slice (some ⟨bW, 0, none⟩) (wsK k).length (wsK k).length, .pointer (some ⟨wo.heap.size, 6, none⟩), .bool false] 48))
          have HE2 := Aside0.mk (HE.out.trans ((bel1 w2 (.cells #[.string (wordB k), .slice AF (foK k).length (foK k).length, .pointer none, .slice (some ⟨bW, 0, none⟩) (wsK k).length (wsK k).length, .pointer (some ⟨wo.heap.size, 6, none⟩), .bool false] 48)).mono HE.out.size))
          generalize w2.heap.size = g7 at BF ⊢
          generalize w2.alloc (.cells #[.string (wordB k), .slice AF (foK k).length (foK k).length, .pointer none, .slice (some ⟨bW, 0, none⟩) (wsK k).length (wsK k).length, .pointer (some ⟨wo.heap.size, 6, none⟩), .bool false] 48) = wz at *
          have y0 : wz.cell? ⟨g7, 0, none⟩ = some (.string (wordB k)) := (blk_cell BF.out 0).trans rfl
          have s0 : wz.cell? ⟨w.heap.size + 1, 0, none⟩ = some (.string hd) := (blk_cell (blk_below SB.out HE2.out) 0).trans rfl
          go_quiet (fail)
          all_goals go_wp2_with (fail)
          all_goals go_roundw
          case rel => exact ⟨k + 1, by go_num, by omega, by omega, HKN, ⟨pw_below_drewN (below_then HB1.out HB1.out.size HE2.out) _⟩⟩
          case measure => simp [intOf]; omega
    · obtain rfl : k = 12 := by omega
      have HOF : Aside0 (oneOf s = none) := ⟨by rw [HONE.out, HK.out]; rfl⟩
      have RB := Aside0.mk (blk_below BR.out HB1.out)
      have HBC : Aside0 (Below w.heap.size w wo) := ⟨HB.out.trans (HB1.out.mono HB.out.size)⟩
      go_wp2_with (refine wpList_store_row rfl 24 (.tmp 2) (.tmp 34) rfl w.heap.size (evC ⟨0, 0, 0, 0, 0, 0, 0, []⟩ (.slice none 0 0)) rfl rfl 24 _ RB.out (by kernel_rfl) rfl (by kernel_rfl) ?_; have n9_ : Aside0 ((wo.setRow w.heap.size (evC ⟨0, 0, 0, 0, 0, 0, 0, []⟩ (.slice none 0 0))).heap[w.heap.size]? = some (.cells (evC ⟨0, 0, 0, 0, 0, 0, 0, []⟩ (.slice none 0 0)) 24 (0, 0))) := ⟨setRow_heap _ _ _ _ _ _ RB.out⟩; have n8_ := Aside0.mk (below_setRow HBC.out (Nat.le_refl _) (evC ⟨0, 0, 0, 0, 0, 0, 0, []⟩ (.slice none 0 0))); generalize wo.setRow w.heap.size (evC ⟨0, 0, 0, 0, 0, 0, 0, []⟩ (.slice none 0 0)) = wy at n9_ n8_ ⊢)
      refine bodyPost_ret (results_ct rfl _ _ w.heap.size 24 (evC ⟨0, 0, 0, 0, 0, 0, 0, []⟩ (.slice none 0 0)) (0, 0) _ rfl n9_.out Tryd.underlying24 rfl (by kernel_rfl)) rfl ?_
      rw [HOF.out]
      exact ⟨⟨_, _, _, _, rfl⟩, n8_.out⟩
end Go.Proofs.YtiapfhlipoomaaaDoor.Given
end
section
namespace Go.Proofs.YtiapfhlipoomaaaDoor.Given
open Go.RowKit Go.Proofs.YtiapfhlipoomaaaDoorW.PrintWords Go.Proofs.YtiapfhlipoomaaaDoorW.PrintLast Go.Proofs.YtiapfhlipoomaaaDoorW.PrintMore Go.Proofs.YtiapfhlipoomaaaDoor.Print
set_option linter.unusedVariables false
set_option linter.unusedSimpArgs false
def parseRun (s : ByteArray) : Nat → Nat → Nat → List S24 → List S24 × Nat × Int
  | 0, _, _, _ => ([], 0, 0)
  | m + 1, pos, from_, out =>
    if pos < s.size then
      if (Utf8.decode s pos).1 = 10 then match oneOf (s.extract from_ pos) with
        | some e => parseRun s m (pos + (Utf8.decode s pos).2) (pos + 1) (out ++ [e])
        | none => ([], out.length + 1, 180)
      else parseRun s m (pos + (Utf8.decode s pos).2) from_ out
    else if from_ < s.size then ([], out.length + 1, 180) else (out, 0, 0)
def parseOf (s : ByteArray) : List S24 × Nat × Int := parseRun s (s.size + 1) 0 0 []
def ParseSays (w : World) (r : List S24 × Nat × Int) (e : Ending) (w' : World) : Prop :=
  ∃ A c, e = .returned (.tuple #[.slice A r.1.length c, .int .i64 (r.2.1 : Int), .int .i64 r.2.2]) ∧ Kd.S k24 24 w' w.heap.size (fun _ => True) (.slice A r.1.length c) r.1 ∧ Below w.heap.size w w'
theorem width_pos (s : ByteArray) (pos : Nat) (h : pos < s.size) : 1 ≤ (Utf8.decode s pos).2 := by
  by_cases ha : (s[pos]'h).toNat < 128
  · rw [decode_ascii s pos h ha]
    exact Nat.le_refl _
  · exact (decode_high s pos h (by omega)).2
theorem extract_size (s : ByteArray) (a b : Nat) : (s.extract a b).size ≤ s.size := by
  rw [ByteArray.size_extract]
  omega
theorem fr_iter {base g : Nat} {w w1 : World} (h : Fr base g w w1) (s : ByteArray) (pos : Nat) : Fr base g w (w1.iterAt g s pos) :=
  ⟨h.os, h.tape, h.output, by rw [Lib.iterAt_size]; exact h.size, fun k hk hg => (Lib.iterAt_other w1 g k s pos hg).trans (h.block k hk hg)⟩
set_option maxRecDepth 100000 in
set_option maxHeartbeats 16000000 in
theorem parse_any (s : ByteArray) (w : World) (hL : LW w) (hs : s.size < 4294967281) : Calls Tryd.prog 18 #[.string s] w (ParseSays w (parseOf s)) := by
  have hu24 := Tryd.underlying24
  have HL := Aside0.mk hL
  have HS := Aside0.mk hs
  clear hL hs
  go_enter Tryd.func18, Tryd.ntmps18
  go_wp2
  have BI0 := Aside0.mk (World.iter_heap w s 0)
  have HW0 : Aside0 (Below w.heap.size w (w.iter s 0)) := ⟨bel1 w _⟩
  have HWS : Aside0 (w.heap.size + 1 ≤ (w.iter s 0).heap.size) := ⟨by show w.heap.size + 1 ≤ (w.alloc _).heap.size; rw [size_alloc]; exact Nat.le_refl _⟩
  obtain ⟨g, hg⟩ : ∃ g, g = w.heap.size := ⟨_, rfl⟩
  have HG := Aside0.mk hg
  rw [← hg] at BI0 HWS ⊢
  generalize w.iter s 0 = wi at BI0 HW0 HWS ⊢
  clear hg
  go_loopw [5, 6] (fun v5 v6 wr => ∃ (pos m fr : Nat) (out : List S24), v6 = .int .i64 (fr : Int) ∧ fr ≤ pos ∧ out.length ≤ pos ∧ out.length ≤ s.size ∧ s.size + 1 ≤ pos + m ∧ 1 ≤ m ∧ Aside0 (parseOf s = parseRun s m pos fr out) ∧ Aside0 (Kd.S k24 24 wr (g + 1) (fun _ => True) v5 out) ∧ Aside0 (wr.heap[g]? = some (.stringIter s pos)) ∧ Aside0 (Fr (g + 1) g wi wr)) (fun _ _ wr => s.size + 4 - wr.iterPos g)
  case atStart => exact ⟨0, s.size + 1, 0, [], rfl, by omega, by simp, by simp, by omega, by omega, ⟨rfl⟩, ⟨Kd.S_nil _ _ _ _ _⟩, BI0, ⟨⟨rfl, rfl, rfl, Nat.le_refl _, fun _ _ _ => rfl⟩⟩⟩
  case round =>
    clear BI0
    obtain ⟨pos, m, fr, out, rfl, hfp, hol, hos, hpm, hm1, HP, HO, BI, FR⟩ := hrel
    obtain ⟨Ao, co, rfl⟩ := Kd.S_slice HO.out
    obtain ⟨m, rfl⟩ : ∃ m', m = m' + 1 := ⟨m - 1, by omega⟩
    have hs := HS.out
    have GW := Aside0.mk (blk_lt BI.out)
    by_cases hp : pos < s.size
    · have hnx : ∀ ty, (Instr.next (.pointer (some ⟨g, 0, none⟩)) true ty).run Tryd.prog wr = _ := fun ty => Lib.run_next_any_at wr g s pos ty BI.out hp
      have hwd := width_pos s pos hp
      have BI2 := Aside0.mk (Lib.iterAt_heap wr g s pos (pos + (Utf8.decode s pos).2) BI.out)
      have FR2 := Aside0.mk (fr_iter FR.out s (pos + (Utf8.decode s pos).2))
      have HO2 : Aside0 (Kd.S k24 24 (wr.iterAt g s (pos + (Utf8.decode s pos).2)) (g + 1) (fun k => k < wr.heap.size) (.slice Ao out.length co) out) := ⟨Kd.S_mono (Kd.S_step (Kd.S_bound HO.out) (fun k hk _ => Lib.iterAt_other wr g k s _ (by have := hk.2.1; omega))) (fun k hk => hk.2.2.1)⟩
      have HSZ2 : Aside0 ((wr.iterAt g s (pos + (Utf8.decode s pos).2)).heap.size = wr.heap.size) := ⟨Lib.iterAt_size _ _ _ _⟩
      obtain ⟨wd, hwdd⟩ : ∃ wd, wd = (Utf8.decode s pos).2 := ⟨_, rfl⟩
      by_cases h10 : (Utf8.decode s pos).1 = 10
      · have HP2 : Aside0 (parseOf s = match oneOf (s.extract fr pos) with
          | some e => parseRun s m (pos + (Utf8.decode s pos).2) (pos + 1) (out ++ [e])
          | none => ([], out.length + 1, 180)) := ⟨by rw [HP.out, parseRun, if_pos hp, if_pos h10]⟩
        rw [h10] at hnx
        rw [← hwdd] at hnx hwd BI2 FR2 HO2 HP2 HSZ2
        clear HP h10 HO FR hwdd
        generalize wr.iterAt g s (pos + wd) = wn at hnx BI2 FR2 HO2 HSZ2
        have HLW : Aside0 (LW wn) := ⟨HL.out.below (HW0.out.trans (FR2.out.below (by have := HG.out; omega) (by have := HG.out; omega)))⟩
        have hsl : ∀ W, (Instr.slice 9 (.string s) (some (.int .i64 (fr : Int))) (some (.int .i64 (pos : Int))) none).run Tryd.prog W = .ok (.string (s.extract fr pos)) W := fun W => by
          have := run_slice_string (P := Tryd.prog) W 9 s .i64 .i64 (fr : Int) (pos : Int) Tryd.underlying9 (by omega) (by omega) (by omega)
          simpa using this
        cases hone : oneOf (s.extract fr pos) with
        | none =>
          have HONE := Aside0.mk hone
          replace HP2 : Aside0 (parseOf s = ([], out.length + 1, 180)) := ⟨by rw [HP2.out, HONE.out]⟩
          clear hone
          go_wp2_with (go_at_call 37; refine (one_any (s.extract fr pos) _ HLW.out (Nat.lt_of_le_of_lt (extract_size _ _ _) HS.out)).mono ?_; rw [HONE.out]; rintro e w3 ⟨⟨x3, A3, n3, c3, rfl⟩, hb⟩; have NB := Aside0.mk hb; clear hb)
          go_ret3
          rw [HP2.out]
          exact ⟨none, 0, rfl, Kd.S_nil _ _ _ _ _, below_alloc (HW0.out.trans ((FR2.out.trans (Fr.of_below (NB.out.mono (Nat.le_trans HWS.out FR2.out.size)))).below (by have := HG.out; omega) (by have := HG.out; omega))) _⟩
        | some x =>
          have HONE := Aside0.mk hone
          replace HP2 : Aside0 (parseOf s = parseRun s m (pos + wd) (pos + 1) (out ++ [x])) := ⟨by rw [HP2.out, HONE.out]⟩
          have HTL : Aside0 ((out.length + 1) * 80 ≤ 140737488355328) := ⟨by omega⟩
          clear hone
          go_upto_region 8 with (go_at_call 37; refine (one_any (s.extract fr pos) _ HLW.out (Nat.lt_of_le_of_lt (extract_size _ _ _) HS.out)).mono ?_; rw [HONE.out]; rintro e w3 ⟨A3, c3, rfl, hr, hb⟩; have NB := Aside0.mk hb; have HR3 := Aside0.mk hr; clear hb hr)
          have BX := Aside0.mk (heap_alloc_new w3 (.cells (evC x (.slice A3 x.f7.length c3)) 24))
          have NB3 := Aside0.mk (NB.out.trans ((bel1 w3 (.cells (evC x (.slice A3 x.f7.length c3)) 24)).mono NB.out.size))
          have HR4 := Aside0.mk (Kd.R_below HR3.out (bel1 w3 (.cells (evC x (.slice A3 x.f7.length c3)) 24)))
          clear NB HR3
          generalize w3.heap.size = g9 at BX ⊢
          generalize w3.alloc (.cells (evC x (.slice A3 x.f7.length c3)) 24) = wk at BX NB3 HR4 ⊢
          have NB := NB3
          have HR3 := HR4
          clear NB3 HR4
          go_wp2_with (first
            | (refine wpList_load_row rfl 24 (.tmp 9) rfl g9 rfl 24 (evC x (.slice A3 x.f7.length c3)) (0, 0) _ BX.out Tryd.underlying24 rfl (by kernel_rfl) ?_)
            | ((with_reducible refine gate_builtin (b := .append) (xs := #[.tmp 32, .tmp 34]) rfl ?_); at_builtin; refine Kd.S_append k24 (w0 := wk) (g + 1) rfl (.tmp 32) (.tmp 34) 29 24 (.agg #[.int .i64 0, .int .i64 0, .int .i64 0, .int .i64 0, .int .i64 0, .int .i64 0, .int .i64 0, .slice none 0 0]) 80 rfl Tryd.underlying29 info24 rfl (by decide) (by omega) (.slice Ao out.length co) out x [.int .i64 x.f0, .int .i64 x.f1, .int .i64 x.f2, .int .i64 x.f3, .int .i64 x.f4, .int .i64 x.f5, .int .i64 x.f6, .slice A3 x.f7.length c3] (fun _ => True) (fun k => wn.heap.size ≤ k) rfl rfl ?aP ?aK (fun _ _ => trivial) ?aO (Below.refl _ _) ?aS HTL.out ?_; (case aP => exact k24_mkM _ _ _ x (Kd.R_lower HR3.out (by have := blk_lt BI2.out; omega))); (case aK => exact fun k hk => ⟨trivial, fun h => by have := Kd.S_lt HO2.out k h.symm; have := HSZ2.out; omega⟩); (case aO => exact Kd.S_mono (Kd.S_below HO2.out NB.out) (fun k hk => ⟨trivial, fun h => by have := HSZ2.out; omega⟩)); (case aS => have := blk_lt BI2.out; have := NB.out.size; omega); intro v4 w4 ho hb _ _; obtain ⟨A4, c4, rfl⟩ := Kd.S_slice ho; have HO4 := Aside0.mk ho; have NB4 := Aside0.mk hb; clear ho hb))
          have hBI := BI2.out
          have NBX := Aside0.mk ((NB.out.mono (by have := blk_lt hBI; omega : g + 1 ≤ wn.heap.size)).trans NB4.out)
          go_roundw
          case rel => exact ⟨pos + wd, m, pos + 1, out ++ [x], by go_num, by omega, by simp; omega, by simp; omega, by omega, by omega, HP2, by simpa using HO4, ⟨(NBX.out.block g (by omega)).trans hBI⟩, ⟨FR2.out.trans (Fr.of_below NBX.out)⟩⟩
          case measure => simp only [World.iterPos, (NBX.out.block g (by omega)).trans hBI, BI.out]; omega
      · have HP2 : Aside0 (parseOf s = parseRun s m (pos + (Utf8.decode s pos).2) fr out) := ⟨by rw [HP.out, parseRun, if_pos hp, if_neg h10]⟩
        obtain ⟨dc, hdc⟩ : ∃ dc, dc = (Utf8.decode s pos).1 := ⟨_, rfl⟩
        rw [← hdc] at hnx h10
        rw [← hwdd] at hnx hwd BI2 FR2 HO2 HP2 HSZ2
        have h10' : ((dc : Int) == 10) = false := by simpa using (fun h => h10 (by omega) : ¬ (dc : Int) = 10)
        clear HP h10 HO FR hwdd hdc
        generalize wr.iterAt g s (pos + wd) = wn at hnx BI2 FR2 HO2 HSZ2
        go_wp2
        go_roundw
        case rel => exact ⟨pos + wd, m, fr, out, rfl, by omega, by omega, by omega, by omega, by omega, HP2, ⟨Kd.S_mono HO2.out (fun _ _ => trivial)⟩, BI2, FR2⟩
        case measure => simp only [World.iterPos, BI2.out, BI.out]; omega
    · have hnx : ∀ ty, (Instr.next (.pointer (some ⟨g, 0, none⟩)) true ty).run Tryd.prog wr = _ := fun ty => Lib.run_next_end_at wr g s pos ty BI.out hp
      have HE : Aside0 (Below w.heap.size w wr) := ⟨HW0.out.trans (FR.out.below (by have := HG.out; omega) (by have := HG.out; omega))⟩
      have HGL : Aside0 (w.heap.size ≤ g + 1) := ⟨by have := HG.out; omega⟩
      by_cases hfs : fr < s.size
      · have HP2 : Aside0 (parseOf s = ([], out.length + 1, 180)) := ⟨by rw [HP.out, parseRun, if_neg hp, if_pos hfs]⟩
        have hd : decide ((fr : Int) < (s.size : Int)) = true := decide_eq_true (by omega)
        go_wp2
        go_ret3
        rw [HP2.out]
        exact ⟨none, 0, rfl, Kd.S_nil _ _ _ _ _, HE.out⟩
      · have HP2 : Aside0 (parseOf s = (out, 0, 0)) := ⟨by rw [HP.out, parseRun, if_neg hp, if_neg hfs]⟩
        have hd : decide ((fr : Int) < (s.size : Int)) = false := decide_eq_false (by omega)
        go_wp2
        go_ret3
        rw [HP2.out]
        exact ⟨Ao, co, rfl, Kd.S_lower HO.out HGL.out, HE.out⟩
end Go.Proofs.YtiapfhlipoomaaaDoor.Given
end
section
namespace Go.Proofs.YtiapfhlipoomaaaDoor.Given
open Go.RowKit Go.Proofs.YtiapfhlipoomaaaDoorW.PrintWords Go.Proofs.YtiapfhlipoomaaaDoorW.PrintLast Go.Proofs.YtiapfhlipoomaaaDoorW.PrintMore Go.Proofs.YtiapfhlipoomaaaDoor.Print
set_option linter.unusedVariables false
set_option linter.unusedSimpArgs false
def cap (n : Nat) : Int := if n ≤ 2147483647 then (n : Int) else 2147483648
theorem dec_len : ∀ (k u : Nat), u < 10 ^ (k + 1) → (Lib.decDigits u).length ≤ k + 1
  | 0, u, h => by
    rw [Lib.decDigits, dif_pos (by omega)]
    simp
  | k + 1, u, h => by
    rw [Lib.decDigits]
    split
    · simp
    · have := dec_len k (u / 10) (by rw [Nat.pow_succ] at h; omega)
      simp only [List.length_append, List.length_cons, List.length_nil]
      omega
theorem itoa_len (n : Int) (h : -9223372036854775808 ≤ n ∧ n ≤ 9223372036854775807) : (itoaB n).size ≤ 20 := by
  have hs : (itoaB n).size = (Lib.itoa n).length := by simp [itoaB, ByteArray.size]
  rw [hs]
  unfold Lib.itoa
  split
  · have := dec_len 18 n.natAbs (by omega)
    simp only [List.length_cons]
    omega
  · have := dec_len 18 n.toNat (by omega)
    omega
end Go.Proofs.YtiapfhlipoomaaaDoor.Given
end
section
namespace Go.Proofs.YtiapfhlipoomaaaDoor.Given
open Go.RowKit Go.Proofs.YtiapfhlipoomaaaDoorW.PrintWords Go.Proofs.YtiapfhlipoomaaaDoorW.PrintLast Go.Proofs.YtiapfhlipoomaaaDoorW.PrintMore Go.Proofs.YtiapfhlipoomaaaDoor.Print
set_option linter.unusedVariables false
set_option linter.unusedSimpArgs false
theorem dec_digit (d : Nat) (h : d < 10) : (UInt8.ofNat (48 + d)).toNat = 48 + d := by
  rw [UInt8.toNat_ofNat_of_lt' (by show 48 + d < 256; omega)]
theorem parse_dec : ∀ (u : Nat) (r : List UInt8), u < 18446744073709551616 → Lib.parseUint10 0 (Lib.decDigits u ++ r) = Lib.parseUint10 u r := by
  intro u
  induction u using Nat.strongRecOn with
  | ind u ih =>
    intro r hu
    rw [Lib.decDigits]
    by_cases h : u < 10
    · rw [dif_pos h, List.singleton_append, Lib.parseUint10, dec_digit u h, if_pos (by omega), if_neg (by omega), if_neg (by omega)]
      congr 1
      omega
    · rw [dif_neg h, List.append_assoc, ih (u / 10) (by omega) _ (by omega), List.singleton_append, Lib.parseUint10, dec_digit _ (by omega), if_pos (by omega), if_neg (by omega), if_neg (by omega)]
      congr 1
      omega
theorem dec_ne : ∀ (u : Nat), Lib.decDigits u ≠ [] := by
  intro u
  rw [Lib.decDigits]
  split
  · simp
  · simp
theorem dec_bytes : ∀ (u : Nat) (b : UInt8), b ∈ Lib.decDigits u → 48 ≤ b.toNat ∧ b.toNat ≤ 57 := by
  intro u
  induction u using Nat.strongRecOn with
  | ind u ih =>
    intro b hb
    rw [Lib.decDigits] at hb
    by_cases h : u < 10
    · rw [dif_pos h, List.mem_singleton] at hb
      subst hb
      rw [dec_digit u h]
      omega
    · rw [dif_neg h, List.mem_append, List.mem_singleton] at hb
      rcases hb with hb | rfl
      · exact ih (u / 10) (by omega) b hb
      · rw [dec_digit _ (by omega)]
        omega
theorem mag_dec (u : Nat) (hu : u < 18446744073709551616) : Lib.parseMag (Lib.decDigits u) = .ok u := by
  unfold Lib.parseMag
  rw [if_neg (dec_ne u)]
  have := parse_dec u [] hu
  rw [List.append_nil] at this
  rw [this]
  rfl
theorem atoi_itoa (n : Int) (h : -9223372036854775808 ≤ n ∧ n ≤ 9223372036854775807) : Lib.atoiAll (Lib.itoa n) = .ok n := by
  unfold Lib.itoa
  by_cases hn : n < 0
  · rw [if_pos hn]
    unfold Lib.atoiAll
    simp only [show (45 : UInt8).toNat = 45 from rfl, or_true, if_true, not_true, false_and, if_false, true_and]
    rw [mag_dec _ (by omega)]
    simp only
    rw [if_neg (by omega)]
    congr 1
    omega
  · rw [if_neg hn]
    have hm := mag_dec n.toNat (by omega)
    have hb := dec_bytes n.toNat
    cases hd : Lib.decDigits n.toNat with
    | nil => exact absurd hd (dec_ne _)
    | cons c r =>
      rw [hd] at hm hb
      have hc := hb c (by simp)
      unfold Lib.atoiAll
      simp only
      rw [if_neg (by omega), hm]
      simp only
      rw [if_neg (by omega), if_neg (by omega), if_neg (by omega)]
      congr 1
      omega
theorem num_itoa (n : Int) (h : -9223372036854775808 ≤ n ∧ n ≤ 9223372036854775807) : numOf (itoaB n) = some n := by
  unfold numOf
  have e : (itoaB n).data.toList = Lib.itoa n := by simp [itoaB]
  rw [e, atoi_itoa n h]
  simp
theorem idx_hit (c : UInt8) (b : List UInt8) : ∀ (a : List UInt8), c ∉ a → Lib.index (a ++ c :: b) [c] = a.length
  | [], _ => by simp [Lib.index, List.isPrefixOf]
  | x :: a, h => by
    have hx : c ≠ x := fun e => h (by simp [e])
    have ih := idx_hit c b a (fun hm => h (by simp [hm]))
    rw [List.cons_append, Lib.index, ih]
    have hp : ([c] : List UInt8).isPrefixOf (x :: (a ++ c :: b)) = false := by simp [List.isPrefixOf, hx]
    rw [if_neg (by rw [hp]; decide)]
    rw [if_neg (by simp)]
    simp
theorem idx_miss (c : UInt8) : ∀ (a : List UInt8), c ∉ a → Lib.index a [c] = -1
  | [], _ => by simp [Lib.index]
  | x :: a, h => by
    have hx : c ≠ x := fun e => h (by simp [e])
    have ih := idx_miss c a (fun hm => h (by simp [hm]))
    rw [Lib.index, ih]
    have hp : ([c] : List UInt8).isPrefixOf (x :: a) = false := by simp [List.isPrefixOf, hx]
    rw [if_neg (by rw [hp]; decide)]
    rfl
def joinS (w : List UInt8) (ws : List (List UInt8)) : List UInt8 := w ++ ws.flatMap (fun x => 32 :: x)
theorem join_decomp : ∀ (l : List UInt8), ∃ w ws, l = joinS w ws ∧ (32 : UInt8) ∉ w ∧ ∀ x ∈ ws, (32 : UInt8) ∉ x
  | [] => ⟨[], [], rfl, by simp, by simp⟩
  | c :: l => by
    obtain ⟨w, ws, rfl, hw, hws⟩ := join_decomp l
    by_cases hc : c = 32
    · subst hc
      exact ⟨[], w :: ws, by simp [joinS], by simp, fun x hx => (List.mem_cons.1 hx).elim (fun e => e ▸ hw) (hws x)⟩
    · exact ⟨c :: w, ws, by simp [joinS], by simp [hw, Ne.symm hc], hws⟩
theorem join_cons (w x : List UInt8) (ws : List (List UInt8)) : joinS w (x :: ws) = w ++ 32 :: joinS x ws := by simp [joinS]
theorem split_join : ∀ (ws : List (List UInt8)) (w : List UInt8), (32 : UInt8) ∉ w → (∀ x ∈ ws, (32 : UInt8) ∉ x) → Lib.splitK [32] 0 ws.length (joinS w ws) = w :: ws
  | [], w, _, _ => by simp [Lib.splitK, joinS]
  | x :: ws, w, hw, hws => by
    have ih := split_join ws x (hws x (by simp)) (fun y hy => hws y (by simp [hy]))
    rw [List.length_cons, Lib.splitK, join_cons, idx_hit 32 _ w hw]
    rw [if_neg (by simp)]
    have e : ((w.length : Int)).toNat = w.length := by omega
    rw [e]
    simp [ih]
theorem count_join : ∀ (ws : List (List UInt8)) (w : List UInt8) (fuel : Nat), (32 : UInt8) ∉ w → (∀ x ∈ ws, (32 : UInt8) ∉ x) → ws.length < fuel → Lib.countFrom [32] fuel (joinS w ws) = ws.length
  | [], w, fuel + 1, hw, _, _ => by
    unfold Lib.countFrom
    have e : joinS w [] = w := by simp [joinS]
    rw [e, idx_miss 32 w hw]
    rfl
  | x :: ws, w, fuel + 1, hw, hws, hf => by
    have ih := count_join ws x fuel (hws x (by simp)) (fun y hy => hws y (by simp [hy])) (by simpa using hf)
    unfold Lib.countFrom
    rw [join_cons, idx_hit 32 _ w hw, if_neg (by simp)]
    have e : ((w.length : Int)).toNat = w.length := by omega
    rw [e]
    have e2 : (w ++ 32 :: joinS x ws).drop (w.length + ([32] : List UInt8).length) = joinS x ws := by simp
    rw [e2, ih, List.length_cons, Nat.add_comm]
theorem join_length (ws : List (List UInt8)) : ∀ (w : List UInt8), ws.length ≤ (joinS w ws).length := by
  induction ws with
  | nil => intro w; simp
  | cons x ws ih =>
    intro w
    rw [join_cons]
    have := ih x
    simp only [List.length_cons, List.length_append]
    omega
theorem words_join (w : List UInt8) (ws : List (List UInt8)) (hw : (32 : UInt8) ∉ w) (hws : ∀ x ∈ ws, (32 : UInt8) ∉ x) : (wordsL ⟨(joinS w ws).toArray⟩).map (fun b => b.data.toList) = w :: ws := by
  unfold wordsL
  have hc : Lib.countB ⟨(joinS w ws).toArray⟩ space = ws.length := by
    show Lib.countFrom [32] ((joinS w ws).toArray.toList.length + 1) (joinS w ws).toArray.toList = ws.length
    rw [List.toList_toArray]
    exact count_join ws w _ hw hws (Nat.lt_succ_of_le (join_length ws w))
  rw [hc]
  have := Lib.splitB_data space 0 ws.length ⟨(joinS w ws).toArray⟩
  rw [show ((⟨(joinS w ws).toArray⟩ : ByteArray).data.toList) = joinS w ws by simp, show space.data.toList = [32] from rfl, split_join ws w hw hws] at this
  exact this
theorem bytes_ext {a b : ByteArray} (h : a.data.toList = b.data.toList) : a = b := by
  cases a with | mk da => cases b with | mk db =>
  have : da = db := Array.ext' h
  rw [this]
theorem map_ext : ∀ {l l' : List ByteArray}, l.map (fun b => b.data.toList) = l'.map (fun b => b.data.toList) → l = l'
  | [], [], _ => rfl
  | [], _ :: _, h => by simp at h
  | _ :: _, [], h => by simp at h
  | a :: l, b :: l', h => by
    simp only [List.map_cons, List.cons.injEq] at h
    rw [bytes_ext h.1, map_ext h.2]
theorem app_list (a b : ByteArray) : (a ++ b).data.toList = a.data.toList ++ b.data.toList := by simp [ByteArray.data_append]
theorem nums_inv : ∀ (l : List ByteArray) (n : List Int), numsIn l = some n → l = n.map itoaB ∧ ∀ x ∈ n, -9223372036854775808 ≤ x ∧ x ≤ 9223372036854775807
  | [], n, h => by
    injection h with h
    subst h
    exact ⟨rfl, by simp⟩
  | t :: r, n, h => by
    unfold numsIn at h
    cases ha : numOf t with
    | none => rw [ha] at h; cases h
    | some v =>
      cases hr : numsIn r with
      | none => rw [ha, hr] at h; cases h
      | some l =>
        rw [ha, hr] at h
        injection h with h
        subst h
        obtain ⟨h1, h2⟩ := nums_inv r l hr
        obtain ⟨h3, h4⟩ := numOf_some ha
        have ht : t = itoaB v := bytes_ext (by rw [← Lib.toList_data, ← Lib.toList_data, h4])
        refine ⟨by rw [List.map_cons, ← h1, ← ht], fun x hx => ?_⟩
        rcases List.mem_cons.1 hx with rfl | hx
        · exact h3
        · exact h2 x hx
end Go.Proofs.YtiapfhlipoomaaaDoor.Given
end
section
namespace Go.Proofs.YtiapfhlipoomaaaDoor.Given
open Go.RowKit Go.Proofs.YtiapfhlipoomaaaDoorW.PrintWords Go.Proofs.YtiapfhlipoomaaaDoorW.PrintLast Go.Proofs.YtiapfhlipoomaaaDoorW.PrintMore Go.Proofs.YtiapfhlipoomaaaDoor.Print
set_option linter.unusedVariables false
set_option linter.unusedSimpArgs false
abbrev Rng (n : Int) : Prop := -9223372036854775808 ≤ n ∧ n ≤ 9223372036854775807
theorem join_list : ∀ (ws : List (List UInt8)) (w : List UInt8), Lib.join (w :: ws) [32] = joinS w ws
  | [], w => by simp [Lib.join, List.intercalate, joinS]
  | x :: ws, w => by
    have ih := join_list ws x
    rw [join_cons, ← ih]
    simp [Lib.join, List.intercalate, List.intersperse]
theorem join_bytes (w : ByteArray) (ws : List ByteArray) : (joinB (w :: ws)).data.toList = joinS w.data.toList (ws.map (fun b => b.data.toList)) := by
  show (Lib.join ((w :: ws).map (fun b => b.data.toList)) [32]).toArray.toList = _
  rw [List.toList_toArray, List.map_cons, join_list]
theorem line_words (t : ByteArray) : ∃ w ws, wordsL t = w :: ws ∧ joinB (w :: ws) = t := by
  obtain ⟨w, ws, he, hw, hws⟩ := join_decomp t.data.toList
  have ht : t = ⟨(joinS w ws).toArray⟩ := bytes_ext (by rw [he])
  have hj := words_join w ws hw hws
  rw [← ht] at hj
  cases hl : wordsL t with
  | nil => rw [hl] at hj; simp at hj
  | cons a l =>
    rw [hl] at hj
    simp only [List.map_cons, List.cons.injEq] at hj
    refine ⟨a, l, rfl, bytes_ext ?_⟩
    rw [join_bytes, hj.1, hj.2, he]
theorem kind_from_back (t : ByteArray) : ∀ (m k0 k : Nat), kindFrom t m k0 = some k → k0 ≤ k ∧ k < k0 + m ∧ (wordB k).toList = t.toList
  | 0, _, _, h => by cases h
  | m + 1, k0, k, h => by
    unfold kindFrom at h
    split at h
    · injection h with h
      subst h
      exact ⟨by omega, by omega, by assumption⟩
    · have := kind_from_back t m (k0 + 1) k h
      exact ⟨by omega, by omega, this.2.2⟩
theorem kind_back (t : ByteArray) (k : Nat) (h : kindOf t = some k) : 1 ≤ k ∧ k ≤ 11 ∧ wordB k = t := by
  obtain ⟨h1, h2, h3⟩ := kind_from_back t 11 1 k h
  exact ⟨h1, by omega, bytes_ext (by rw [← Lib.toList_data, ← Lib.toList_data, h3])⟩
theorem eleven {k : Nat} (h1 : 1 ≤ k) (h2 : k ≤ 11) : k = 1 ∨ k = 2 ∨ k = 3 ∨ k = 4 ∨ k = 5 ∨ k = 6 ∨ k = 7 ∨ k = 8 ∨ k = 9 ∨ k = 10 ∨ k = 11 := by omega
def wordsR (k : Nat) (x : S24) : List ByteArray := if clsK k = 2 then [(wsK k).getD x.f6.toNat ⟨#[]⟩] else []
theorem words_parts (k : Nat) (x : S24) : wordsK k x = wordB k :: ((atK k).map (fun o => itoaB (getK x o)) ++ (wordsR k x ++ x.f7.map itoaB)) := by
  unfold wordsK wordsF wordsM wordsR atK
  by_cases c1 : clsK k = 1
  · rw [if_pos c1, if_pos c1, if_neg (by omega)]
    simp
    rfl
  · rw [if_neg c1, if_neg c1]
    simp
def setAll (x0 : S24) : List Nat → List Int → S24
  | o :: os, n :: ns => setAll (setK x0 n o) os ns
  | _, _ => x0
theorem fill_back : ∀ (os : List Nat) (x0 x1 : S24) (ws r : List ByteArray), fillNums os ws x0 = some (x1, r) → ∃ ns : List Int, ns.length = os.length ∧ ws = ns.map itoaB ++ r ∧ (∀ n ∈ ns, Rng n) ∧ x1 = setAll x0 os ns
  | [], x0, x1, ws, r, h => by
    simp only [fillNums, Option.some.injEq, Prod.mk.injEq] at h
    obtain ⟨rfl, rfl⟩ := h
    exact ⟨[], rfl, rfl, by simp, rfl⟩
  | o :: os, x0, x1, [], r, h => by cases h
  | o :: os, x0, x1, t :: ws, r, h => by
    unfold fillNums at h
    split at h
    · rename_i n hn
      obtain ⟨ns, h1, h2, h3, h4⟩ := fill_back os _ x1 ws r h
      obtain ⟨h5, h6⟩ := numOf_some hn
      have ht : t = itoaB n := bytes_ext (by rw [← Lib.toList_data, ← Lib.toList_data, h6])
      refine ⟨n :: ns, by simp [h1], by rw [ht, h2]; rfl, fun m hm => ?_, h4⟩
      rcases List.mem_cons.1 hm with rfl | hm
      · exact h5
      · exact h3 m hm
    · cases h
theorem get_set_or (x : S24) (n : Int) (o p : Nat) : getK (setK x n o) p = n ∨ getK (setK x n o) p = getK x p := by
  unfold setK
  split <;> (unfold getK; split <;> simp)
theorem set_rng (x : S24) (n : Int) (o : Nat) (hn : Rng n) (h : ∀ p, p ≤ 6 → Rng (getK x p)) : ∀ p, p ≤ 6 → Rng (getK (setK x n o) p) := fun p hp => by
  rcases get_set_or x n o p with e | e <;> rw [e]
  · exact hn
  · exact h p hp
theorem all_rng : ∀ (os : List Nat) (ns : List Int) (x : S24), (∀ n ∈ ns, Rng n) → (∀ p, p ≤ 6 → Rng (getK x p)) → ∀ p, p ≤ 6 → Rng (getK (setAll x os ns) p)
  | [], ns, x, _, h => h
  | _ :: _, [], x, _, h => h
  | o :: os, n :: ns, x, hn, h => all_rng os ns (setK x n o) (fun m hm => hn m (by simp [hm])) (set_rng x n o (hn n (by simp)) h)
theorem all_f0 : ∀ (os : List Nat) (ns : List Int) (x : S24), (setAll x os ns).f0 = x.f0
  | [], ns, x => rfl
  | _ :: _, [], x => rfl
  | o :: os, n :: ns, x => by rw [setAll, all_f0 os ns, setK_f0]
theorem len1 {α : Type} {l : List α} (h : l.length = 1) : ∃ a, l = [a] := by
  match l, h with
  | [a], _ => exact ⟨a, rfl⟩
theorem len2 {α : Type} {l : List α} (h : l.length = 2) : ∃ a b, l = [a, b] := by
  match l, h with
  | [a, b], _ => exact ⟨a, b, rfl⟩
theorem len3 {α : Type} {l : List α} (h : l.length = 3) : ∃ a b c, l = [a, b, c] := by
  match l, h with
  | [a, b, c], _ => exact ⟨a, b, c, rfl⟩
theorem len5 {α : Type} {l : List α} (h : l.length = 5) : ∃ a b c d e, l = [a, b, c, d, e] := by
  match l, h with
  | [a, b, c, d, e], _ => exact ⟨a, b, c, d, e, rfl⟩
theorem all_get (k : Nat) (h1 : 1 ≤ k) (h2 : k ≤ 11) (ns : List Int) (x : S24) (n6 : Int) (l : List Int) (hn : ns.length = (atK k).length) :
    (atK k).map (fun o => getK (setAll x (atK k) ns) o) = ns ∧ (clsK k = 2 → (atK k).map (fun o => getK (setK (setAll x (atK k) ns) n6 6) o) = ns) := by
  rcases eleven h1 h2 with rfl | rfl | rfl | rfl | rfl | rfl | rfl | rfl | rfl | rfl | rfl
  · obtain ⟨a, b, rfl⟩ := len2 hn
    exact ⟨rfl, fun _ => rfl⟩
  · obtain ⟨a, b, c, d, e, rfl⟩ := len5 hn
    exact ⟨rfl, fun _ => rfl⟩
  · obtain ⟨a, b, c, rfl⟩ := len3 hn
    exact ⟨rfl, fun h => by cases h⟩
  · obtain ⟨a, b, c, rfl⟩ := len3 hn
    exact ⟨rfl, fun h => by cases h⟩
  · obtain ⟨a, rfl⟩ := len1 hn
    exact ⟨rfl, fun _ => rfl⟩
  · obtain ⟨a, rfl⟩ := len1 hn
    exact ⟨rfl, fun _ => rfl⟩
  · obtain rfl := List.length_eq_zero_iff.1 hn
    exact ⟨rfl, fun _ => rfl⟩
  · obtain rfl := List.length_eq_zero_iff.1 hn
    exact ⟨rfl, fun _ => rfl⟩
  · obtain rfl := List.length_eq_zero_iff.1 hn
    exact ⟨rfl, fun _ => rfl⟩
  · obtain ⟨a, rfl⟩ := len1 hn
    exact ⟨rfl, fun _ => rfl⟩
  · obtain ⟨a, rfl⟩ := len1 hn
    exact ⟨rfl, fun _ => rfl⟩
theorem ok_some {k : Nat} {x : S24} (h : okK k x = true) (hc : clsK k = 2) : 1 ≤ x.f6 ∧ x.f6 < ((wsK k).length : Int) ∧ (wsK k).length ≤ 7 := by
  refine ⟨?_, ?_, ws_len k⟩
  · unfold clsK at hc
    split at hc <;> first | exact absurd hc (by decide) | (simp [okK] at h; omega)
  · unfold clsK at hc
    split at hc <;> first | exact absurd hc (by decide) | (simp [okK] at h; simp [wsK]; omega)
theorem idx_back : ∀ (l : List ByteArray) (t : ByteArray) (k : Nat), 0 ≤ idxB l t k → ∃ j : Nat, idxB l t k = ((k + j : Nat) : Int) ∧ l.getD j ⟨#[]⟩ = t ∧ j < l.length
  | [], t, k, h => by
    unfold idxB at h
    omega
  | a :: l, t, k, h => by
    unfold idxB at h ⊢
    by_cases e : t.toList = a.toList
    · rw [if_pos e]
      exact ⟨0, rfl, bytes_ext (by rw [← Lib.toList_data, ← Lib.toList_data, e]; rfl), by simp⟩
    · rw [if_neg e] at h ⊢
      obtain ⟨j, h1, h2, h3⟩ := idx_back l t (k + 1) h
      exact ⟨j + 1, by rw [h1]; congr 1; omega, by simpa using h2, by simp; omega⟩
theorem fill_of_back (k : Nat) (h1 : 1 ≤ k) (h2 : k ≤ 11) (ws : List ByteArray) (x : S24) (h : fillOf k ws = some x) : x.f0 = k ∧ okX x = true ∧ rngX x ∧ wordsK k x = wordB k :: ws := by
  unfold fillOf at h
  obtain ⟨⟨x2, r2⟩, h, h3⟩ := Option.bind_eq_some_iff.1 h
  obtain ⟨⟨x1, r1⟩, hn, hw⟩ := Option.bind_eq_some_iff.1 h
  obtain ⟨ns, n1, n2, n3, n4⟩ := fill_back _ _ _ _ _ hn
  unfold fillRest at h3
  simp only at h3
  obtain ⟨l, l1, l2⟩ := Option.bind_eq_some_iff.1 h3
  obtain ⟨l3, l4⟩ := nums_inv r2 l l1
  have hx1 : ∀ p, p ≤ 6 → Rng (getK x1 p) := by
    rw [n4]
    exact all_rng _ _ _ n3 (fun p hp => by
      have : getK (⟨(k : Int), 0, 0, 0, 0, 0, 0, []⟩ : S24) p = 0 ∨ getK (⟨(k : Int), 0, 0, 0, 0, 0, 0, []⟩ : S24) p = (k : Int) := by
        unfold getK
        split <;> simp
      unfold Rng
      omega)
  have hf1 : x1.f0 = (k : Int) := by rw [n4, all_f0]
  have hg := fun n6 => all_get k h1 h2 ns ⟨k, 0, 0, 0, 0, 0, 0, []⟩ n6 [] n1
  split at l2
  · rename_i hok
    injection l2 with l2
    have hgx : ∀ p, getK x p = getK x2 p := fun p => by rw [← l2]; unfold getK; split <;> rfl
    have hf7 : x.f7 = l := by rw [← l2]
    have hok2 : okX x = true := by rw [← l2]; exact hok
    unfold fillWord at hw
    rw [words_parts]
    unfold wordsR
    by_cases hc : clsK k = 2
    · rw [if_pos hc] at hw ⊢
      simp only at hw
      split at hw
      · cases hw
      · rename_i t r
        split at hw
        · cases hw
        · simp only [Option.some.injEq, Prod.mk.injEq] at hw
          obtain ⟨w1, w2⟩ := hw
          have hf0 : x.f0 = (k : Int) := by rw [← l2, ← w1, setK_f0, hf1]
          have h6 : x.f6 = idxB (wsK k) t 0 := by rw [← l2, ← w1]; rfl
          have hokk : okK k x = true := by
            unfold okX at hok2
            rw [Bool.and_eq_true, hf0, Int.toNat_natCast] at hok2
            exact hok2.2
          obtain ⟨o1, o2, o3⟩ := ok_some hokk hc
          obtain ⟨j, j1, j2, j3⟩ := idx_back (wsK k) t 0 (by omega)
          have hj : x.f6.toNat = j := by omega
          refine ⟨hf0, hok2, ⟨fun p hp => ?_, by rw [hf7]; exact l4⟩, ?_⟩
          · rw [hgx, ← w1]
            exact set_rng _ _ _ (by unfold Rng; omega) hx1 p hp
          · have hm : (atK k).map (fun o => itoaB (getK x o)) = ns.map itoaB := by
              have := (hg (idxB (wsK k) t 0)).2 hc
              rw [← n4, w1] at this
              have e : (atK k).map (fun o => itoaB (getK x o)) = ((atK k).map (fun o => getK x2 o)).map itoaB := by
                rw [List.map_map]
                apply List.map_congr_left
                intro o _
                show itoaB (getK x o) = itoaB (getK x2 o)
                rw [hgx]
              rw [e, this]
            rw [hm, hj, j2, hf7, ← l3, ← w2, n2]
            simp
    · rw [if_neg hc] at hw ⊢
      simp only [Option.some.injEq, Prod.mk.injEq] at hw
      obtain ⟨w1, w2⟩ := hw
      refine ⟨by rw [← l2, ← w1]; exact hf1, hok2, ⟨fun p hp => by rw [hgx, ← w1]; exact hx1 p hp, by rw [hf7]; exact l4⟩, ?_⟩
      have hm : (atK k).map (fun o => itoaB (getK x o)) = ns.map itoaB := by
        have := (hg 0).1
        rw [← n4, w1] at this
        have e : (atK k).map (fun o => itoaB (getK x o)) = ((atK k).map (fun o => getK x2 o)).map itoaB := by
          rw [List.map_map]
          apply List.map_congr_left
          intro o _
          show itoaB (getK x o) = itoaB (getK x2 o)
          rw [hgx]
        rw [e, this]
      rw [hm, hf7, ← l3, ← w2, n2]
      simp
  · cases l2
theorem one_back (t : ByteArray) (x : S24) (h : oneOf t = some x) : joinB (wordsX x) = t ∧ okX x = true ∧ rngX x := by
  obtain ⟨w, ws, hl, hj⟩ := line_words t
  unfold oneOf at h
  rw [hl, List.headD_cons, List.tail_cons] at h
  obtain ⟨k, hk, hf⟩ := Option.bind_eq_some_iff.1 h
  obtain ⟨k1, k2, rfl⟩ := kind_back w k hk
  obtain ⟨f1, f2, f3, f4⟩ := fill_of_back k k1 k2 ws x hf
  refine ⟨?_, f2, f3⟩
  unfold wordsX
  rw [f1, Int.toNat_natCast, f4, hj]
end Go.Proofs.YtiapfhlipoomaaaDoor.Given
end
section
namespace Go.Proofs.YtiapfhlipoomaaaDoor.Given
open Go.RowKit Go.Proofs.YtiapfhlipoomaaaDoorW.PrintWords Go.Proofs.YtiapfhlipoomaaaDoorW.PrintLast Go.Proofs.YtiapfhlipoomaaaDoorW.PrintMore Go.Proofs.YtiapfhlipoomaaaDoor.Print
set_option linter.unusedVariables false
set_option linter.unusedSimpArgs false
theorem list_size (b : ByteArray) : b.data.toList.length = b.size := Array.length_toList
theorem ext_list (s : ByteArray) (a b : Nat) : (s.extract a b).data.toList = (s.data.toList.drop a).take (b - a) := by
  rw [ByteArray.data_extract, Array.toList_extract, List.extract_eq_take_drop]
theorem dec_ten (s : ByteArray) (pos : Nat) (hp : pos < s.size) (h : (Utf8.decode s pos).1 = 10) : s.data.toList[pos]? = some 10 ∧ (Utf8.decode s pos).2 = 1 := by
  by_cases ha : (s[pos]'hp).toNat < 128
  · have e := decode_ascii s pos hp ha
    rw [e] at h ⊢
    refine ⟨?_, rfl⟩
    have e2 : s[pos]'hp = 10 := UInt8.toNat_inj.1 h
    rw [List.getElem?_eq_getElem (by rw [list_size]; exact hp)]
    exact congrArg some e2
  · have := decode_high s pos hp (by omega)
    omega
theorem line_bytes (x : S24) : (lineB (wordsX x)).data.toList = (joinB (wordsX x)).data.toList ++ [10] := by
  unfold lineB
  rw [app_list]
theorem run_back (s : ByteArray) : ∀ (m pos fr : Nat) (out : List S24), s.size + 1 ≤ pos + m → 1 ≤ m → fr ≤ pos → fr ≤ s.size → (textOf out).data.toList = s.data.toList.take fr → (∀ x ∈ out, okX x = true ∧ rngX x) →
    (∃ r, parseRun s m pos fr out = (r, 0, 0) ∧ (∀ x ∈ r, okX x = true ∧ rngX x) ∧ textOf r = s) ∨ ∃ n : Nat, 1 ≤ n ∧ parseRun s m pos fr out = ([], n, 180)
  | m + 1, pos, fr, out, h1, _, h3, h4, h5, h6 => by
    rw [parseRun]
    by_cases hp : pos < s.size
    · rw [if_pos hp]
      have hw := width_pos s pos hp
      by_cases h10 : (Utf8.decode s pos).1 = 10
      · rw [if_pos h10]
        obtain ⟨d1, d2⟩ := dec_ten s pos hp h10
        cases ho : oneOf (s.extract fr pos) with
        | none => exact Or.inr ⟨_, by omega, rfl⟩
        | some x =>
          simp only
          obtain ⟨o1, o2, o3⟩ := one_back _ x ho
          refine run_back s m _ (pos + 1) (out ++ [x]) (by omega) (by omega) (by omega) (by omega) ?_ (fun y hy => ?_)
          · rw [textOf_snoc, app_list, line_bytes, o1, h5, ext_list, List.take_add_one, d1, Option.toList_some, ← List.append_assoc]
            congr 1
            have e : pos = fr + (pos - fr) := by omega
            conv => rhs; rw [e]
            rw [List.take_add]
          · rcases List.mem_append.1 hy with hy | hy
            · exact h6 y hy
            · rw [List.mem_singleton] at hy
              subst hy
              exact ⟨o2, o3⟩
      · rw [if_neg h10]
        exact run_back s m _ fr out (by omega) (by omega) (by omega) h4 h5 h6
    · rw [if_neg hp]
      by_cases hf : fr < s.size
      · rw [if_pos hf]
        exact Or.inr ⟨_, by omega, rfl⟩
      · rw [if_neg hf]
        refine Or.inl ⟨out, rfl, h6, bytes_ext ?_⟩
        rw [h5, List.take_of_length_le (by rw [list_size]; omega)]
theorem parse_back (s : ByteArray) : (∃ r, parseOf s = (r, 0, 0) ∧ (∀ x ∈ r, okX x = true ∧ rngX x) ∧ printOf r = (s, 0)) ∨ ∃ n : Nat, 1 ≤ n ∧ parseOf s = ([], n, 180) := by
  have h := run_back s (s.size + 1) 0 0 [] (by omega) (by omega) (by omega) (by omega) rfl (by simp)
  unfold parseOf
  rcases h with ⟨r, h1, h2, h3⟩ | h
  · refine Or.inl ⟨r, h1, h2, ?_⟩
    unfold printOf
    rw [if_pos (List.all_eq_true.2 (fun x hx => (h2 x hx).1)), h3]
  · exact Or.inr h
end Go.Proofs.YtiapfhlipoomaaaDoor.Given
end
section
namespace Go.Proofs.YtiapfhlipoomaaaDoor.Print
open Go.RowKit
open Go.RowKit Go.Proofs.YtiapfhlipoomaaaDoorW.PrintWords Go.Proofs.YtiapfhlipoomaaaDoorW.PrintLast Go.Proofs.YtiapfhlipoomaaaDoorW.PrintMore
attribute [local go_sem] max2_int min2_int max_two min_two max_three min_three max_four min_four
set_option linter.unusedVariables false
set_option linter.unusedSimpArgs false
def squintlaw18_sameInts.l0 : Nat → List Int → List Int → Int → Option (Bool)
  | 0, _, _, _ => none
  | k + 1, x0, x1, x5 => if x5 < (x0.length : Int) then (if 0 ≤ x5 then (if x5 < (x1.length : Int) then (if (rd x0 x5) = (rd x1 x5) then (squintlaw18_sameInts.l0 k x0 x1 (wrap64 (x5 + 1))) else (some false)) else (none)) else (none)) else (some true)
def squintlaw18_sameInts.f (k : Nat) (l0 : List Int) (l1 : List Int) : Option (Bool) := if (l0.length : Int) = (l1.length : Int) then (squintlaw18_sameInts.l0 k l0 l1 0) else (some false)
set_option maxHeartbeats 8000000 in
set_option maxRecDepth 100000 in
theorem squintlaw18_sameInts.calls (k : Nat) (A0 : Option Addr) (c0 : Nat) (l0 : List Int) (A1 : Option Addr) (c1 : Nat) (l1 : List Int) (r : Bool) (w : World) (hr0 : Kd.C (Kd.int .i64) w A0 l0.length l0) (hc0 : l0.length ≤ c0) (hr1 : Kd.C (Kd.int .i64) w A1 l1.length l1) (hc1 : l1.length ≤ c1) (h : squintlaw18_sameInts.f k l0 l1 = some r) :
    Calls Tryd.prog 36 #[.slice A0 l0.length c0, .slice A1 l1.length c1] w fun e w' => e = .returned (.bool r) ∧ Drawn0 w w' := by
  have HR0 := Aside0.mk hr0
  have HC0 := Aside0.mk hc0
  clear hr0 hc0
  have HR1 := Aside0.mk hr1
  have HC1 := Aside0.mk hc1
  clear hr1 hc1
  have H : (if (l0.length : Int) = (l1.length : Int) then (squintlaw18_sameInts.l0 k l0 l1 0) else (some false)) = some r := h
  clear h
  by_cases c3 : (l0.length : Int) = (l1.length : Int)
  · rw [if_pos c3] at H
    have c3b0 : ((l0.length : Int) == (l1.length : Int)) = true := beq_iff_eq.mpr c3
    have c3b1 : ((l0.length : Int) != (l1.length : Int)) = false := bne_eq_false_iff_eq.mpr c3
    have c3b2 : (l0.length == l1.length) = true := by first | simpa using c3 | (simp at c3 ⊢; omega)
    clear c3
    have H' := Aside0.mk H
    clear H
    go_enter Tryd.func36, Tryd.ntmps36
    go_wp2
    repeat (go_quiet (fail); try go_wp2)
    go_loopg [5] k (fun kq v5 w' => ∃ (x5_1 : Int), v5 = .int .i64 x5_1 ∧ Aside0 (squintlaw18_sameInts.l0 kq l0 l1 x5_1 = some r) ∧ Aside0 (kq ≤ k) ∧ Drawn0 w w')
    case atStart => exact ⟨(0), (by first | rfl | (simp; done) | (simp [*]; done)), H', ⟨Nat.le_refl _⟩, by repeat (first | exact Drawn0.refl _ | apply Drawn0.step)⟩
    case round =>
      clear H'
      try clear c1
      try clear p2
      try clear c3
      try clear c3b0
      try clear c3b1
      try clear c3b2
      obtain ⟨x5_1, rfl, HA, HK1, ⟨m1, rfl⟩⟩ := hrel
      cases gk with
      | zero => exact absurd HA.out (by simp [squintlaw18_sameInts.l0])
      | succ k1 =>
        have H := HA.out
        clear HA
        simp only [squintlaw18_sameInts.l0] at H
        by_cases c4 : x5_1 < (l0.length : Int)
        · rw [if_pos c4] at H
          have c4b0 : decide (x5_1 < (l0.length : Int)) = true := decide_eq_true c4
          clear c4
          by_cases c5 : 0 ≤ x5_1
          · rw [if_pos c5] at H
            have c5b0 : decide (0 ≤ x5_1) = true := decide_eq_true c5
            clear c5
            by_cases c6 : x5_1 < (l1.length : Int)
            · rw [if_pos c6] at H
              have c6b0 : decide (x5_1 < (l1.length : Int)) = true := decide_eq_true c6
              clear c6
              by_cases c7 : (rd l0 x5_1) = (rd l1 x5_1)
              · rw [if_pos c7] at H
                have c7b0 : ((rd l0 x5_1) == (rd l1 x5_1)) = true := beq_iff_eq.mpr c7
                have c7b1 : ((rd l0 x5_1) != (rd l1 x5_1)) = false := bne_eq_false_iff_eq.mpr c7
                clear c7
                have H' := Aside0.mk H
                clear H
                have p246 : 0 ≤ (x5_1 : Int) := of_decide_eq_true (by first | (with_reducible assumption) | assumption)
                have q246 : x5_1 < (l0.length : Int) := of_decide_eq_true (by first | (with_reducible assumption) | assumption)
                obtain ⟨ad246, e246, hx246_0⟩ := Kd.at_int HR0.out x5_1 p246 q246
                cases e246
                replace p246 := eq_true p246
                replace q246 := eq_true q246
                have p247 : 0 ≤ (x5_1 : Int) := of_decide_eq_true (by first | (with_reducible assumption) | assumption)
                have q247 : x5_1 < (l1.length : Int) := of_decide_eq_true (by first | (with_reducible assumption) | assumption)
                obtain ⟨ad247, e247, hx247_0⟩ := Kd.at_int HR1.out x5_1 p247 q247
                cases e247
                replace p247 := eq_true p247
                replace q247 := eq_true q247
                go_wp2
                repeat (go_quiet (fail); try go_wp2)
                go_roundg k1
                case measure => have := HK1.out; omega
                case rel => exact ⟨(wrap64 (x5_1 + 1)), (by first | rfl | (simp; done) | (simp [*]; done)), H', ⟨by have := HK1.out; omega⟩, by repeat (first | exact Drawn0.refl _ | apply Drawn0.step)⟩
              · rw [if_neg c7] at H
                have c7b0 : ((rd l0 x5_1) == (rd l1 x5_1)) = false := beq_eq_false_iff_ne.mpr c7
                have c7b1 : ((rd l0 x5_1) != (rd l1 x5_1)) = true := bne_iff_ne.mpr c7
                obtain rfl := Option.some.inj H
                have p246 : 0 ≤ (x5_1 : Int) := of_decide_eq_true (by first | (with_reducible assumption) | assumption)
                have q246 : x5_1 < (l0.length : Int) := of_decide_eq_true (by first | (with_reducible assumption) | assumption)
                obtain ⟨ad246, e246, hx246_0⟩ := Kd.at_int HR0.out x5_1 p246 q246
                cases e246
                replace p246 := eq_true p246
                replace q246 := eq_true q246
                have p247 : 0 ≤ (x5_1 : Int) := of_decide_eq_true (by first | (with_reducible assumption) | assumption)
                have q247 : x5_1 < (l1.length : Int) := of_decide_eq_true (by first | (with_reducible assumption) | assumption)
                obtain ⟨ad247, e247, hx247_0⟩ := Kd.at_int HR1.out x5_1 p247 q247
                cases e247
                replace p247 := eq_true p247
                replace q247 := eq_true q247
                go_wp2
                repeat (go_quiet (fail); try go_wp2)
                go_ret
                exact ⟨by first | rfl | (simp; done) | (simp [*]; done), by repeat (first | exact Drawn0.refl _ | apply Drawn0.step)⟩
            · rw [if_neg c6] at H
              exact absurd H (by simp)
          · rw [if_neg c5] at H
            exact absurd H (by simp)
        · rw [if_neg c4] at H
          have c4b0 : decide (x5_1 < (l0.length : Int)) = false := decide_eq_false c4
          clear c4
          obtain rfl := Option.some.inj H
          go_wp2
          repeat (go_quiet (fail); try go_wp2)
          go_ret
          exact ⟨by first | rfl | (simp; done) | (simp [*]; done), by repeat (first | exact Drawn0.refl _ | apply Drawn0.step)⟩
  · rw [if_neg c3] at H
    have c3b0 : ((l0.length : Int) == (l1.length : Int)) = false := beq_eq_false_iff_ne.mpr c3
    have c3b1 : ((l0.length : Int) != (l1.length : Int)) = true := bne_iff_ne.mpr c3
    have c3b2 : (l0.length == l1.length) = false := by first | simpa using c3 | (simp at c3 ⊢; omega)
    obtain rfl := Option.some.inj H
    go_enter Tryd.func36, Tryd.ntmps36
    go_wp2
    repeat (go_quiet (fail); try go_wp2)
    go_ret
    exact ⟨by first | rfl | (simp; done) | (simp [*]; done), by repeat (first | exact Drawn0.refl _ | apply Drawn0.step)⟩
def squintlaw18_sameEvent.f (k : Nat) (a0_0 : Int) (a0_1 : Int) (a0_2 : Int) (a0_3 : Int) (a0_4 : Int) (a0_5 : Int) (a0_6 : Int) (l0_7 : List Int) (a1_0 : Int) (a1_1 : Int) (a1_2 : Int) (a1_3 : Int) (a1_4 : Int) (a1_5 : Int) (a1_6 : Int) (l1_7 : List Int) : Option (Bool) := if a0_0 = a1_0 then (if a0_1 = a1_1 then (if a0_2 = a1_2 then (if a0_3 = a1_3 then (if a0_4 = a1_4 then (if a0_5 = a1_5 then (if a0_6 = a1_6 then ((squintlaw18_sameInts.f k l0_7 l1_7).bind fun t250 => (some t250)) else (some false)) else (some false)) else (some false)) else (some false)) else (some false)) else (some false)) else (some false)
set_option maxHeartbeats 8000000 in
set_option maxRecDepth 100000 in
theorem squintlaw18_sameEvent.calls (k : Nat) (a0_0 : Int) (a0_1 : Int) (a0_2 : Int) (a0_3 : Int) (a0_4 : Int) (a0_5 : Int) (a0_6 : Int) (A0_7 : Option Addr) (c0_7 : Nat) (l0_7 : List Int) (a1_0 : Int) (a1_1 : Int) (a1_2 : Int) (a1_3 : Int) (a1_4 : Int) (a1_5 : Int) (a1_6 : Int) (A1_7 : Option Addr) (c1_7 : Nat) (l1_7 : List Int) (r : Bool) (w : World) (hr0_7 : Kd.C (Kd.int .i64) w A0_7 l0_7.length l0_7) (hc0_7 : l0_7.length ≤ c0_7) (hr1_7 : Kd.C (Kd.int .i64) w A1_7 l1_7.length l1_7) (hc1_7 : l1_7.length ≤ c1_7) (h : squintlaw18_sameEvent.f k a0_0 a0_1 a0_2 a0_3 a0_4 a0_5 a0_6 l0_7 a1_0 a1_1 a1_2 a1_3 a1_4 a1_5 a1_6 l1_7 = some r) :
    Calls Tryd.prog 39 #[.agg #[.int .i64 a0_0, .int .i64 a0_1, .int .i64 a0_2, .int .i64 a0_3, .int .i64 a0_4, .int .i64 a0_5, .int .i64 a0_6, .slice A0_7 l0_7.length c0_7], .agg #[.int .i64 a1_0, .int .i64 a1_1, .int .i64 a1_2, .int .i64 a1_3, .int .i64 a1_4, .int .i64 a1_5, .int .i64 a1_6, .slice A1_7 l1_7.length c1_7]] w fun e w' => e = .returned (.bool r) ∧ Below w.heap.size w w' := by
  have hu24 := Tryd.underlying24
  have HR0_7 := Aside0.mk hr0_7
  have HC0_7 := Aside0.mk hc0_7
  clear hr0_7 hc0_7
  have HR1_7 := Aside0.mk hr1_7
  have HC1_7 := Aside0.mk hc1_7
  clear hr1_7 hc1_7
  have HB := Aside0.mk (Below.refl w.heap.size w)
  have H : (if a0_0 = a1_0 then (if a0_1 = a1_1 then (if a0_2 = a1_2 then (if a0_3 = a1_3 then (if a0_4 = a1_4 then (if a0_5 = a1_5 then (if a0_6 = a1_6 then ((squintlaw18_sameInts.f k l0_7 l1_7).bind fun t250 => (some t250)) else (some false)) else (some false)) else (some false)) else (some false)) else (some false)) else (some false)) else (some false)) = some r := h
  clear h
  by_cases c3 : a0_0 = a1_0
  · rw [if_pos c3] at H
    have c3b0 : (a0_0 == a1_0) = true := beq_iff_eq.mpr c3
    have c3b1 : (a0_0 != a1_0) = false := bne_eq_false_iff_eq.mpr c3
    clear c3
    by_cases c4 : a0_1 = a1_1
    · rw [if_pos c4] at H
      have c4b0 : (a0_1 == a1_1) = true := beq_iff_eq.mpr c4
      have c4b1 : (a0_1 != a1_1) = false := bne_eq_false_iff_eq.mpr c4
      clear c4
      by_cases c5 : a0_2 = a1_2
      · rw [if_pos c5] at H
        have c5b0 : (a0_2 == a1_2) = true := beq_iff_eq.mpr c5
        have c5b1 : (a0_2 != a1_2) = false := bne_eq_false_iff_eq.mpr c5
        clear c5
        by_cases c6 : a0_3 = a1_3
        · rw [if_pos c6] at H
          have c6b0 : (a0_3 == a1_3) = true := beq_iff_eq.mpr c6
          have c6b1 : (a0_3 != a1_3) = false := bne_eq_false_iff_eq.mpr c6
          clear c6
          by_cases c7 : a0_4 = a1_4
          · rw [if_pos c7] at H
            have c7b0 : (a0_4 == a1_4) = true := beq_iff_eq.mpr c7
            have c7b1 : (a0_4 != a1_4) = false := bne_eq_false_iff_eq.mpr c7
            clear c7
            by_cases c8 : a0_5 = a1_5
            · rw [if_pos c8] at H
              have c8b0 : (a0_5 == a1_5) = true := beq_iff_eq.mpr c8
              have c8b1 : (a0_5 != a1_5) = false := bne_eq_false_iff_eq.mpr c8
              clear c8
              by_cases c9 : a0_6 = a1_6
              · rw [if_pos c9] at H
                have c9b0 : (a0_6 == a1_6) = true := beq_iff_eq.mpr c9
                have c9b1 : (a0_6 != a1_6) = false := bne_eq_false_iff_eq.mpr c9
                clear c9
                replace H := Option.bind_eq_some_iff.mp H
                obtain ⟨t250, A100, H⟩ := H
                replace H : (some t250) = some r := H
                have A10 := Aside0.mk A100
                clear A100
                obtain rfl := Option.some.inj H
                go_enter Tryd.func39, Tryd.ntmps39
                go_wp2_with (first | ((with_reducible refine gate_dst (N := 2) rfl ?_); refine box_event ?hg (N := 2) ?hd (cs := #[.int .i64 a0_0, .int .i64 a0_1, .int .i64 a0_2, .int .i64 a0_3, .int .i64 a0_4, .int .i64 a0_5, .int .i64 a0_6, .slice A0_7 l0_7.length c0_7]) (t := 24) ?hr ?_; (case hd => rfl); (case hg => rfl); (case hr => first | (go_simp; done) | (go_simp; rfl)); intro gb248 hg w11 hbox hb; have n0_ := Aside0.mk (below_step (by repeat (first | (with_reducible first | exact HB.out | apply below_alloc | apply pw_below_drewN | apply below_drew1) | exact HB.out)) hb); have n1_ := Aside0.mk (hbox); have n2_ := Aside0.mk ((by rw [hg]; exact (below_size (by repeat (first | (with_reducible first | exact HB.out | apply below_alloc | apply pw_below_drewN | apply below_drew1) | exact HB.out))) : w.heap.size ≤ gb248)); have n3_ := Aside0.mk ((by rw [hg]; exact (below_size (by repeat (first | (with_reducible first | exact HB.out | apply below_alloc | apply pw_below_drewN | apply below_drew1) | exact HB.out))) : w.heap.size ≤ gb248)); clear HB; have HB := n0_; have BK248 := n1_; have GW248 := n2_; have GE248 := n3_; clear n0_ n1_ n2_ n3_; clear hb hbox hg) | ((with_reducible refine gate_dst (N := 3) rfl ?_); refine box_event ?hg (N := 3) ?hd (cs := #[.int .i64 a1_0, .int .i64 a1_1, .int .i64 a1_2, .int .i64 a1_3, .int .i64 a1_4, .int .i64 a1_5, .int .i64 a1_6, .slice A1_7 l1_7.length c1_7]) (t := 24) ?hr ?_; (case hd => rfl); (case hg => rfl); (case hr => first | (go_simp; done) | (go_simp; rfl)); intro gb249 hg w12 hbox hb; have n0_ := Aside0.mk (blk_below (g := gb248) (o := .cells #[.int .i64 a0_0, .int .i64 a0_1, .int .i64 a0_2, .int .i64 a0_3, .int .i64 a0_4, .int .i64 a0_5, .int .i64 a0_6, .slice A0_7 l0_7.length c0_7] 24 (0, 0)) (by (with_reducible repeat (first | refine blk_drewN ?_ _ | refine blk_drew ?_ | refine blk_alloc ?_ _)); exact BK248.out) hb); have n1_ := Aside0.mk (below_step (by repeat (first | (with_reducible first | exact HB.out | apply below_alloc | apply pw_below_drewN | apply below_drew1 | refine below_set ?_ GE248.out) | exact HB.out)) hb); have n2_ := Aside0.mk (hbox); have n3_ := Aside0.mk ((by rw [hg]; exact (below_size (by repeat (first | (with_reducible first | exact HB.out | apply below_alloc | apply pw_below_drewN | apply below_drew1 | refine below_set ?_ GE248.out) | exact HB.out))) : w.heap.size ≤ gb249)); have n4_ := Aside0.mk ((by rw [hg]; exact (below_size (by repeat (first | (with_reducible first | exact HB.out | apply below_alloc | apply pw_below_drewN | apply below_drew1 | refine below_set ?_ GE248.out) | exact HB.out))) : w.heap.size ≤ gb249)); have n5_ := Aside0.mk ((by rw [hg]; exact Nat.ne_of_lt (blk_lt (g := gb248) (o := .cells #[.int .i64 a0_0, .int .i64 a0_1, .int .i64 a0_2, .int .i64 a0_3, .int .i64 a0_4, .int .i64 a0_5, .int .i64 a0_6, .slice A0_7 l0_7.length c0_7] 24 (0, 0)) (by (with_reducible repeat (first | refine blk_drewN ?_ _ | refine blk_drew ?_ | refine blk_alloc ?_ _)); exact BK248.out)) : gb248 ≠ gb249)); have n6_ := Aside0.mk ((by rw [hg]; exact Nat.ne_of_gt (blk_lt (g := gb248) (o := .cells #[.int .i64 a0_0, .int .i64 a0_1, .int .i64 a0_2, .int .i64 a0_3, .int .i64 a0_4, .int .i64 a0_5, .int .i64 a0_6, .slice A0_7 l0_7.length c0_7] 24 (0, 0)) (by (with_reducible repeat (first | refine blk_drewN ?_ _ | refine blk_drew ?_ | refine blk_alloc ?_ _)); exact BK248.out)) : gb249 ≠ gb248)); clear BK248; clear HB; have BK248 := n0_; have HB := n1_; have BK249 := n2_; have GW249 := n3_; have GE249 := n4_; have NB248_249 := n5_; have NB249_248 := n6_; clear n0_ n1_ n2_ n3_ n4_ n5_ n6_; clear hb hbox hg; have hnb13 := NB248_249.out; have hnc13 := NB249_248.out; have hcz14_0 : w12.cell? ⟨gb248, 0, none⟩ = some (.int .i64 a0_0) := (blk_cell BK248.out 0).trans rfl; have hcz14_1 : w12.cell? ⟨gb248, 1, none⟩ = some (.int .i64 a0_1) := (blk_cell BK248.out 1).trans rfl; have hcz14_2 : w12.cell? ⟨gb248, 2, none⟩ = some (.int .i64 a0_2) := (blk_cell BK248.out 2).trans rfl; have hcz14_3 : w12.cell? ⟨gb248, 3, none⟩ = some (.int .i64 a0_3) := (blk_cell BK248.out 3).trans rfl; have hcz14_4 : w12.cell? ⟨gb248, 4, none⟩ = some (.int .i64 a0_4) := (blk_cell BK248.out 4).trans rfl; have hcz14_5 : w12.cell? ⟨gb248, 5, none⟩ = some (.int .i64 a0_5) := (blk_cell BK248.out 5).trans rfl; have hcz14_6 : w12.cell? ⟨gb248, 6, none⟩ = some (.int .i64 a0_6) := (blk_cell BK248.out 6).trans rfl; have hcz14_7 : w12.cell? ⟨gb248, 7, none⟩ = some (.slice A0_7 l0_7.length c0_7) := (blk_cell BK248.out 7).trans rfl; have hfz14_0 := blk_frozen BK248.out 0; have hfz14_1 := blk_frozen BK248.out 1; have hfz14_2 := blk_frozen BK248.out 2; have hfz14_3 := blk_frozen BK248.out 3; have hfz14_4 := blk_frozen BK248.out 4; have hfz14_5 := blk_frozen BK248.out 5; have hfz14_6 := blk_frozen BK248.out 6; have hfz14_7 := blk_frozen BK248.out 7; have hcz15_0 : w12.cell? ⟨gb249, 0, none⟩ = some (.int .i64 a1_0) := (blk_cell BK249.out 0).trans rfl; have hcz15_1 : w12.cell? ⟨gb249, 1, none⟩ = some (.int .i64 a1_1) := (blk_cell BK249.out 1).trans rfl; have hcz15_2 : w12.cell? ⟨gb249, 2, none⟩ = some (.int .i64 a1_2) := (blk_cell BK249.out 2).trans rfl; have hcz15_3 : w12.cell? ⟨gb249, 3, none⟩ = some (.int .i64 a1_3) := (blk_cell BK249.out 3).trans rfl; have hcz15_4 : w12.cell? ⟨gb249, 4, none⟩ = some (.int .i64 a1_4) := (blk_cell BK249.out 4).trans rfl; have hcz15_5 : w12.cell? ⟨gb249, 5, none⟩ = some (.int .i64 a1_5) := (blk_cell BK249.out 5).trans rfl; have hcz15_6 : w12.cell? ⟨gb249, 6, none⟩ = some (.int .i64 a1_6) := (blk_cell BK249.out 6).trans rfl; have hcz15_7 : w12.cell? ⟨gb249, 7, none⟩ = some (.slice A1_7 l1_7.length c1_7) := (blk_cell BK249.out 7).trans rfl; have hfz15_0 := blk_frozen BK249.out 0; have hfz15_1 := blk_frozen BK249.out 1; have hfz15_2 := blk_frozen BK249.out 2; have hfz15_3 := blk_frozen BK249.out 3; have hfz15_4 := blk_frozen BK249.out 4; have hfz15_5 := blk_frozen BK249.out 5; have hfz15_6 := blk_frozen BK249.out 6; have hfz15_7 := blk_frozen BK249.out 7) | (go_at_call 36; (with_reducible refine (squintlaw18_sameInts.calls k _ _ l0_7 _ _ l1_7 t250 _ ?side1 ?side2 ?side3 ?side4 A10.out).mono ?_); (case side1 => repeat (first | exact (Kd.C_below HR0_7.out HB.out) | (with_reducible refine Kd.C_alloc ?_ _) | (with_reducible refine Kd.C_drewN ?_ _) | (with_reducible refine Kd.C_drew ?_))); (case side2 => exact HC0_7.out); (case side3 => repeat (first | exact (Kd.C_below HR1_7.out HB.out) | (with_reducible refine Kd.C_alloc ?_ _) | (with_reducible refine Kd.C_drewN ?_ _) | (with_reducible refine Kd.C_drew ?_))); (case side4 => exact HC1_7.out); rintro e w' ⟨rfl, ⟨nd, rfl⟩⟩))
                go_ret
                exact ⟨by first | rfl | (simp [errW_none, errW_some] <;> rfl) | (simp [*, errW_none, errW_some] <;> rfl), by repeat (first | (with_reducible first | exact HB.out | apply below_alloc | apply pw_below_drewN | apply below_drew1 | refine below_set ?_ GE248.out | refine below_set ?_ GE249.out) | exact HB.out)⟩
              · rw [if_neg c9] at H
                have c9b0 : (a0_6 == a1_6) = false := beq_eq_false_iff_ne.mpr c9
                have c9b1 : (a0_6 != a1_6) = true := bne_iff_ne.mpr c9
                obtain rfl := Option.some.inj H
                go_enter Tryd.func39, Tryd.ntmps39
                go_wp2_with (first | ((with_reducible refine gate_dst (N := 2) rfl ?_); refine box_event ?hg (N := 2) ?hd (cs := #[.int .i64 a0_0, .int .i64 a0_1, .int .i64 a0_2, .int .i64 a0_3, .int .i64 a0_4, .int .i64 a0_5, .int .i64 a0_6, .slice A0_7 l0_7.length c0_7]) (t := 24) ?hr ?_; (case hd => rfl); (case hg => rfl); (case hr => first | (go_simp; done) | (go_simp; rfl)); intro gb248 hg w16 hbox hb; have n0_ := Aside0.mk (below_step (by repeat (first | (with_reducible first | exact HB.out | apply below_alloc | apply pw_below_drewN | apply below_drew1) | exact HB.out)) hb); have n1_ := Aside0.mk (hbox); have n2_ := Aside0.mk ((by rw [hg]; exact (below_size (by repeat (first | (with_reducible first | exact HB.out | apply below_alloc | apply pw_below_drewN | apply below_drew1) | exact HB.out))) : w.heap.size ≤ gb248)); have n3_ := Aside0.mk ((by rw [hg]; exact (below_size (by repeat (first | (with_reducible first | exact HB.out | apply below_alloc | apply pw_below_drewN | apply below_drew1) | exact HB.out))) : w.heap.size ≤ gb248)); clear HB; have HB := n0_; have BK248 := n1_; have GW248 := n2_; have GE248 := n3_; clear n0_ n1_ n2_ n3_; clear hb hbox hg) | ((with_reducible refine gate_dst (N := 3) rfl ?_); refine box_event ?hg (N := 3) ?hd (cs := #[.int .i64 a1_0, .int .i64 a1_1, .int .i64 a1_2, .int .i64 a1_3, .int .i64 a1_4, .int .i64 a1_5, .int .i64 a1_6, .slice A1_7 l1_7.length c1_7]) (t := 24) ?hr ?_; (case hd => rfl); (case hg => rfl); (case hr => first | (go_simp; done) | (go_simp; rfl)); intro gb249 hg w17 hbox hb; have n0_ := Aside0.mk (blk_below (g := gb248) (o := .cells #[.int .i64 a0_0, .int .i64 a0_1, .int .i64 a0_2, .int .i64 a0_3, .int .i64 a0_4, .int .i64 a0_5, .int .i64 a0_6, .slice A0_7 l0_7.length c0_7] 24 (0, 0)) (by (with_reducible repeat (first | refine blk_drewN ?_ _ | refine blk_drew ?_ | refine blk_alloc ?_ _)); exact BK248.out) hb); have n1_ := Aside0.mk (below_step (by repeat (first | (with_reducible first | exact HB.out | apply below_alloc | apply pw_below_drewN | apply below_drew1 | refine below_set ?_ GE248.out) | exact HB.out)) hb); have n2_ := Aside0.mk (hbox); have n3_ := Aside0.mk ((by rw [hg]; exact (below_size (by repeat (first | (with_reducible first | exact HB.out | apply below_alloc | apply pw_below_drewN | apply below_drew1 | refine below_set ?_ GE248.out) | exact HB.out))) : w.heap.size ≤ gb249)); have n4_ := Aside0.mk ((by rw [hg]; exact (below_size (by repeat (first | (with_reducible first | exact HB.out | apply below_alloc | apply pw_below_drewN | apply below_drew1 | refine below_set ?_ GE248.out) | exact HB.out))) : w.heap.size ≤ gb249)); have n5_ := Aside0.mk ((by rw [hg]; exact Nat.ne_of_lt (blk_lt (g := gb248) (o := .cells #[.int .i64 a0_0, .int .i64 a0_1, .int .i64 a0_2, .int .i64 a0_3, .int .i64 a0_4, .int .i64 a0_5, .int .i64 a0_6, .slice A0_7 l0_7.length c0_7] 24 (0, 0)) (by (with_reducible repeat (first | refine blk_drewN ?_ _ | refine blk_drew ?_ | refine blk_alloc ?_ _)); exact BK248.out)) : gb248 ≠ gb249)); have n6_ := Aside0.mk ((by rw [hg]; exact Nat.ne_of_gt (blk_lt (g := gb248) (o := .cells #[.int .i64 a0_0, .int .i64 a0_1, .int .i64 a0_2, .int .i64 a0_3, .int .i64 a0_4, .int .i64 a0_5, .int .i64 a0_6, .slice A0_7 l0_7.length c0_7] 24 (0, 0)) (by (with_reducible repeat (first | refine blk_drewN ?_ _ | refine blk_drew ?_ | refine blk_alloc ?_ _)); exact BK248.out)) : gb249 ≠ gb248)); clear BK248; clear HB; have BK248 := n0_; have HB := n1_; have BK249 := n2_; have GW249 := n3_; have GE249 := n4_; have NB248_249 := n5_; have NB249_248 := n6_; clear n0_ n1_ n2_ n3_ n4_ n5_ n6_; clear hb hbox hg; have hnb18 := NB248_249.out; have hnc18 := NB249_248.out; have hcz19_0 : w17.cell? ⟨gb248, 0, none⟩ = some (.int .i64 a0_0) := (blk_cell BK248.out 0).trans rfl; have hcz19_1 : w17.cell? ⟨gb248, 1, none⟩ = some (.int .i64 a0_1) := (blk_cell BK248.out 1).trans rfl; have hcz19_2 : w17.cell? ⟨gb248, 2, none⟩ = some (.int .i64 a0_2) := (blk_cell BK248.out 2).trans rfl; have hcz19_3 : w17.cell? ⟨gb248, 3, none⟩ = some (.int .i64 a0_3) := (blk_cell BK248.out 3).trans rfl; have hcz19_4 : w17.cell? ⟨gb248, 4, none⟩ = some (.int .i64 a0_4) := (blk_cell BK248.out 4).trans rfl; have hcz19_5 : w17.cell? ⟨gb248, 5, none⟩ = some (.int .i64 a0_5) := (blk_cell BK248.out 5).trans rfl; have hcz19_6 : w17.cell? ⟨gb248, 6, none⟩ = some (.int .i64 a0_6) := (blk_cell BK248.out 6).trans rfl; have hcz19_7 : w17.cell? ⟨gb248, 7, none⟩ = some (.slice A0_7 l0_7.length c0_7) := (blk_cell BK248.out 7).trans rfl; have hfz19_0 := blk_frozen BK248.out 0; have hfz19_1 := blk_frozen BK248.out 1; have hfz19_2 := blk_frozen BK248.out 2; have hfz19_3 := blk_frozen BK248.out 3; have hfz19_4 := blk_frozen BK248.out 4; have hfz19_5 := blk_frozen BK248.out 5; have hfz19_6 := blk_frozen BK248.out 6; have hfz19_7 := blk_frozen BK248.out 7; have hcz20_0 : w17.cell? ⟨gb249, 0, none⟩ = some (.int .i64 a1_0) := (blk_cell BK249.out 0).trans rfl; have hcz20_1 : w17.cell? ⟨gb249, 1, none⟩ = some (.int .i64 a1_1) := (blk_cell BK249.out 1).trans rfl; have hcz20_2 : w17.cell? ⟨gb249, 2, none⟩ = some (.int .i64 a1_2) := (blk_cell BK249.out 2).trans rfl; have hcz20_3 : w17.cell? ⟨gb249, 3, none⟩ = some (.int .i64 a1_3) := (blk_cell BK249.out 3).trans rfl; have hcz20_4 : w17.cell? ⟨gb249, 4, none⟩ = some (.int .i64 a1_4) := (blk_cell BK249.out 4).trans rfl; have hcz20_5 : w17.cell? ⟨gb249, 5, none⟩ = some (.int .i64 a1_5) := (blk_cell BK249.out 5).trans rfl; have hcz20_6 : w17.cell? ⟨gb249, 6, none⟩ = some (.int .i64 a1_6) := (blk_cell BK249.out 6).trans rfl; have hcz20_7 : w17.cell? ⟨gb249, 7, none⟩ = some (.slice A1_7 l1_7.length c1_7) := (blk_cell BK249.out 7).trans rfl; have hfz20_0 := blk_frozen BK249.out 0; have hfz20_1 := blk_frozen BK249.out 1; have hfz20_2 := blk_frozen BK249.out 2; have hfz20_3 := blk_frozen BK249.out 3; have hfz20_4 := blk_frozen BK249.out 4; have hfz20_5 := blk_frozen BK249.out 5; have hfz20_6 := blk_frozen BK249.out 6; have hfz20_7 := blk_frozen BK249.out 7))
                go_ret
                exact ⟨by first | rfl | (simp [errW_none, errW_some] <;> rfl) | (simp [*, errW_none, errW_some] <;> rfl), by repeat (first | (with_reducible first | exact HB.out | apply below_alloc | apply pw_below_drewN | apply below_drew1 | refine below_set ?_ GE248.out | refine below_set ?_ GE249.out) | exact HB.out)⟩
            · rw [if_neg c8] at H
              have c8b0 : (a0_5 == a1_5) = false := beq_eq_false_iff_ne.mpr c8
              have c8b1 : (a0_5 != a1_5) = true := bne_iff_ne.mpr c8
              obtain rfl := Option.some.inj H
              go_enter Tryd.func39, Tryd.ntmps39
              go_wp2_with (first | ((with_reducible refine gate_dst (N := 2) rfl ?_); refine box_event ?hg (N := 2) ?hd (cs := #[.int .i64 a0_0, .int .i64 a0_1, .int .i64 a0_2, .int .i64 a0_3, .int .i64 a0_4, .int .i64 a0_5, .int .i64 a0_6, .slice A0_7 l0_7.length c0_7]) (t := 24) ?hr ?_; (case hd => rfl); (case hg => rfl); (case hr => first | (go_simp; done) | (go_simp; rfl)); intro gb248 hg w21 hbox hb; have n0_ := Aside0.mk (below_step (by repeat (first | (with_reducible first | exact HB.out | apply below_alloc | apply pw_below_drewN | apply below_drew1) | exact HB.out)) hb); have n1_ := Aside0.mk (hbox); have n2_ := Aside0.mk ((by rw [hg]; exact (below_size (by repeat (first | (with_reducible first | exact HB.out | apply below_alloc | apply pw_below_drewN | apply below_drew1) | exact HB.out))) : w.heap.size ≤ gb248)); have n3_ := Aside0.mk ((by rw [hg]; exact (below_size (by repeat (first | (with_reducible first | exact HB.out | apply below_alloc | apply pw_below_drewN | apply below_drew1) | exact HB.out))) : w.heap.size ≤ gb248)); clear HB; have HB := n0_; have BK248 := n1_; have GW248 := n2_; have GE248 := n3_; clear n0_ n1_ n2_ n3_; clear hb hbox hg) | ((with_reducible refine gate_dst (N := 3) rfl ?_); refine box_event ?hg (N := 3) ?hd (cs := #[.int .i64 a1_0, .int .i64 a1_1, .int .i64 a1_2, .int .i64 a1_3, .int .i64 a1_4, .int .i64 a1_5, .int .i64 a1_6, .slice A1_7 l1_7.length c1_7]) (t := 24) ?hr ?_; (case hd => rfl); (case hg => rfl); (case hr => first | (go_simp; done) | (go_simp; rfl)); intro gb249 hg w22 hbox hb; have n0_ := Aside0.mk (blk_below (g := gb248) (o := .cells #[.int .i64 a0_0, .int .i64 a0_1, .int .i64 a0_2, .int .i64 a0_3, .int .i64 a0_4, .int .i64 a0_5, .int .i64 a0_6, .slice A0_7 l0_7.length c0_7] 24 (0, 0)) (by (with_reducible repeat (first | refine blk_drewN ?_ _ | refine blk_drew ?_ | refine blk_alloc ?_ _)); exact BK248.out) hb); have n1_ := Aside0.mk (below_step (by repeat (first | (with_reducible first | exact HB.out | apply below_alloc | apply pw_below_drewN | apply below_drew1 | refine below_set ?_ GE248.out) | exact HB.out)) hb); have n2_ := Aside0.mk (hbox); have n3_ := Aside0.mk ((by rw [hg]; exact (below_size (by repeat (first | (with_reducible first | exact HB.out | apply below_alloc | apply pw_below_drewN | apply below_drew1 | refine below_set ?_ GE248.out) | exact HB.out))) : w.heap.size ≤ gb249)); have n4_ := Aside0.mk ((by rw [hg]; exact (below_size (by repeat (first | (with_reducible first | exact HB.out | apply below_alloc | apply pw_below_drewN | apply below_drew1 | refine below_set ?_ GE248.out) | exact HB.out))) : w.heap.size ≤ gb249)); have n5_ := Aside0.mk ((by rw [hg]; exact Nat.ne_of_lt (blk_lt (g := gb248) (o := .cells #[.int .i64 a0_0, .int .i64 a0_1, .int .i64 a0_2, .int .i64 a0_3, .int .i64 a0_4, .int .i64 a0_5, .int .i64 a0_6, .slice A0_7 l0_7.length c0_7] 24 (0, 0)) (by (with_reducible repeat (first | refine blk_drewN ?_ _ | refine blk_drew ?_ | refine blk_alloc ?_ _)); exact BK248.out)) : gb248 ≠ gb249)); have n6_ := Aside0.mk ((by rw [hg]; exact Nat.ne_of_gt (blk_lt (g := gb248) (o := .cells #[.int .i64 a0_0, .int .i64 a0_1, .int .i64 a0_2, .int .i64 a0_3, .int .i64 a0_4, .int .i64 a0_5, .int .i64 a0_6, .slice A0_7 l0_7.length c0_7] 24 (0, 0)) (by (with_reducible repeat (first | refine blk_drewN ?_ _ | refine blk_drew ?_ | refine blk_alloc ?_ _)); exact BK248.out)) : gb249 ≠ gb248)); clear BK248; clear HB; have BK248 := n0_; have HB := n1_; have BK249 := n2_; have GW249 := n3_; have GE249 := n4_; have NB248_249 := n5_; have NB249_248 := n6_; clear n0_ n1_ n2_ n3_ n4_ n5_ n6_; clear hb hbox hg; have hnb23 := NB248_249.out; have hnc23 := NB249_248.out; have hcz24_0 : w22.cell? ⟨gb248, 0, none⟩ = some (.int .i64 a0_0) := (blk_cell BK248.out 0).trans rfl; have hcz24_1 : w22.cell? ⟨gb248, 1, none⟩ = some (.int .i64 a0_1) := (blk_cell BK248.out 1).trans rfl; have hcz24_2 : w22.cell? ⟨gb248, 2, none⟩ = some (.int .i64 a0_2) := (blk_cell BK248.out 2).trans rfl; have hcz24_3 : w22.cell? ⟨gb248, 3, none⟩ = some (.int .i64 a0_3) := (blk_cell BK248.out 3).trans rfl; have hcz24_4 : w22.cell? ⟨gb248, 4, none⟩ = some (.int .i64 a0_4) := (blk_cell BK248.out 4).trans rfl; have hcz24_5 : w22.cell? ⟨gb248, 5, none⟩ = some (.int .i64 a0_5) := (blk_cell BK248.out 5).trans rfl; have hcz24_6 : w22.cell? ⟨gb248, 6, none⟩ = some (.int .i64 a0_6) := (blk_cell BK248.out 6).trans rfl; have hcz24_7 : w22.cell? ⟨gb248, 7, none⟩ = some (.slice A0_7 l0_7.length c0_7) := (blk_cell BK248.out 7).trans rfl; have hfz24_0 := blk_frozen BK248.out 0; have hfz24_1 := blk_frozen BK248.out 1; have hfz24_2 := blk_frozen BK248.out 2; have hfz24_3 := blk_frozen BK248.out 3; have hfz24_4 := blk_frozen BK248.out 4; have hfz24_5 := blk_frozen BK248.out 5; have hfz24_6 := blk_frozen BK248.out 6; have hfz24_7 := blk_frozen BK248.out 7; have hcz25_0 : w22.cell? ⟨gb249, 0, none⟩ = some (.int .i64 a1_0) := (blk_cell BK249.out 0).trans rfl; have hcz25_1 : w22.cell? ⟨gb249, 1, none⟩ = some (.int .i64 a1_1) := (blk_cell BK249.out 1).trans rfl; have hcz25_2 : w22.cell? ⟨gb249, 2, none⟩ = some (.int .i64 a1_2) := (blk_cell BK249.out 2).trans rfl; have hcz25_3 : w22.cell? ⟨gb249, 3, none⟩ = some (.int .i64 a1_3) := (blk_cell BK249.out 3).trans rfl; have hcz25_4 : w22.cell? ⟨gb249, 4, none⟩ = some (.int .i64 a1_4) := (blk_cell BK249.out 4).trans rfl; have hcz25_5 : w22.cell? ⟨gb249, 5, none⟩ = some (.int .i64 a1_5) := (blk_cell BK249.out 5).trans rfl; have hcz25_6 : w22.cell? ⟨gb249, 6, none⟩ = some (.int .i64 a1_6) := (blk_cell BK249.out 6).trans rfl; have hcz25_7 : w22.cell? ⟨gb249, 7, none⟩ = some (.slice A1_7 l1_7.length c1_7) := (blk_cell BK249.out 7).trans rfl; have hfz25_0 := blk_frozen BK249.out 0; have hfz25_1 := blk_frozen BK249.out 1; have hfz25_2 := blk_frozen BK249.out 2; have hfz25_3 := blk_frozen BK249.out 3; have hfz25_4 := blk_frozen BK249.out 4; have hfz25_5 := blk_frozen BK249.out 5; have hfz25_6 := blk_frozen BK249.out 6; have hfz25_7 := blk_frozen BK249.out 7))
              go_ret
              exact ⟨by first | rfl | (simp [errW_none, errW_some] <;> rfl) | (simp [*, errW_none, errW_some] <;> rfl), by repeat (first | (with_reducible first | exact HB.out | apply below_alloc | apply pw_below_drewN | apply below_drew1 | refine below_set ?_ GE248.out | refine below_set ?_ GE249.out) | exact HB.out)⟩
          · rw [if_neg c7] at H
            have c7b0 : (a0_4 == a1_4) = false := beq_eq_false_iff_ne.mpr c7
            have c7b1 : (a0_4 != a1_4) = true := bne_iff_ne.mpr c7
            obtain rfl := Option.some.inj H
            go_enter Tryd.func39, Tryd.ntmps39
            go_wp2_with (first | ((with_reducible refine gate_dst (N := 2) rfl ?_); refine box_event ?hg (N := 2) ?hd (cs := #[.int .i64 a0_0, .int .i64 a0_1, .int .i64 a0_2, .int .i64 a0_3, .int .i64 a0_4, .int .i64 a0_5, .int .i64 a0_6, .slice A0_7 l0_7.length c0_7]) (t := 24) ?hr ?_; (case hd => rfl); (case hg => rfl); (case hr => first | (go_simp; done) | (go_simp; rfl)); intro gb248 hg w26 hbox hb; have n0_ := Aside0.mk (below_step (by repeat (first | (with_reducible first | exact HB.out | apply below_alloc | apply pw_below_drewN | apply below_drew1) | exact HB.out)) hb); have n1_ := Aside0.mk (hbox); have n2_ := Aside0.mk ((by rw [hg]; exact (below_size (by repeat (first | (with_reducible first | exact HB.out | apply below_alloc | apply pw_below_drewN | apply below_drew1) | exact HB.out))) : w.heap.size ≤ gb248)); have n3_ := Aside0.mk ((by rw [hg]; exact (below_size (by repeat (first | (with_reducible first | exact HB.out | apply below_alloc | apply pw_below_drewN | apply below_drew1) | exact HB.out))) : w.heap.size ≤ gb248)); clear HB; have HB := n0_; have BK248 := n1_; have GW248 := n2_; have GE248 := n3_; clear n0_ n1_ n2_ n3_; clear hb hbox hg) | ((with_reducible refine gate_dst (N := 3) rfl ?_); refine box_event ?hg (N := 3) ?hd (cs := #[.int .i64 a1_0, .int .i64 a1_1, .int .i64 a1_2, .int .i64 a1_3, .int .i64 a1_4, .int .i64 a1_5, .int .i64 a1_6, .slice A1_7 l1_7.length c1_7]) (t := 24) ?hr ?_; (case hd => rfl); (case hg => rfl); (case hr => first | (go_simp; done) | (go_simp; rfl)); intro gb249 hg w27 hbox hb; have n0_ := Aside0.mk (blk_below (g := gb248) (o := .cells #[.int .i64 a0_0, .int .i64 a0_1, .int .i64 a0_2, .int .i64 a0_3, .int .i64 a0_4, .int .i64 a0_5, .int .i64 a0_6, .slice A0_7 l0_7.length c0_7] 24 (0, 0)) (by (with_reducible repeat (first | refine blk_drewN ?_ _ | refine blk_drew ?_ | refine blk_alloc ?_ _)); exact BK248.out) hb); have n1_ := Aside0.mk (below_step (by repeat (first | (with_reducible first | exact HB.out | apply below_alloc | apply pw_below_drewN | apply below_drew1 | refine below_set ?_ GE248.out) | exact HB.out)) hb); have n2_ := Aside0.mk (hbox); have n3_ := Aside0.mk ((by rw [hg]; exact (below_size (by repeat (first | (with_reducible first | exact HB.out | apply below_alloc | apply pw_below_drewN | apply below_drew1 | refine below_set ?_ GE248.out) | exact HB.out))) : w.heap.size ≤ gb249)); have n4_ := Aside0.mk ((by rw [hg]; exact (below_size (by repeat (first | (with_reducible first | exact HB.out | apply below_alloc | apply pw_below_drewN | apply below_drew1 | refine below_set ?_ GE248.out) | exact HB.out))) : w.heap.size ≤ gb249)); have n5_ := Aside0.mk ((by rw [hg]; exact Nat.ne_of_lt (blk_lt (g := gb248) (o := .cells #[.int .i64 a0_0, .int .i64 a0_1, .int .i64 a0_2, .int .i64 a0_3, .int .i64 a0_4, .int .i64 a0_5, .int .i64 a0_6, .slice A0_7 l0_7.length c0_7] 24 (0, 0)) (by (with_reducible repeat (first | refine blk_drewN ?_ _ | refine blk_drew ?_ | refine blk_alloc ?_ _)); exact BK248.out)) : gb248 ≠ gb249)); have n6_ := Aside0.mk ((by rw [hg]; exact Nat.ne_of_gt (blk_lt (g := gb248) (o := .cells #[.int .i64 a0_0, .int .i64 a0_1, .int .i64 a0_2, .int .i64 a0_3, .int .i64 a0_4, .int .i64 a0_5, .int .i64 a0_6, .slice A0_7 l0_7.length c0_7] 24 (0, 0)) (by (with_reducible repeat (first | refine blk_drewN ?_ _ | refine blk_drew ?_ | refine blk_alloc ?_ _)); exact BK248.out)) : gb249 ≠ gb248)); clear BK248; clear HB; have BK248 := n0_; have HB := n1_; have BK249 := n2_; have GW249 := n3_; have GE249 := n4_; have NB248_249 := n5_; have NB249_248 := n6_; clear n0_ n1_ n2_ n3_ n4_ n5_ n6_; clear hb hbox hg; have hnb28 := NB248_249.out; have hnc28 := NB249_248.out; have hcz29_0 : w27.cell? ⟨gb248, 0, none⟩ = some (.int .i64 a0_0) := (blk_cell BK248.out 0).trans rfl; have hcz29_1 : w27.cell? ⟨gb248, 1, none⟩ = some (.int .i64 a0_1) := (blk_cell BK248.out 1).trans rfl; have hcz29_2 : w27.cell? ⟨gb248, 2, none⟩ = some (.int .i64 a0_2) := (blk_cell BK248.out 2).trans rfl; have hcz29_3 : w27.cell? ⟨gb248, 3, none⟩ = some (.int .i64 a0_3) := (blk_cell BK248.out 3).trans rfl; have hcz29_4 : w27.cell? ⟨gb248, 4, none⟩ = some (.int .i64 a0_4) := (blk_cell BK248.out 4).trans rfl; have hcz29_5 : w27.cell? ⟨gb248, 5, none⟩ = some (.int .i64 a0_5) := (blk_cell BK248.out 5).trans rfl; have hcz29_6 : w27.cell? ⟨gb248, 6, none⟩ = some (.int .i64 a0_6) := (blk_cell BK248.out 6).trans rfl; have hcz29_7 : w27.cell? ⟨gb248, 7, none⟩ = some (.slice A0_7 l0_7.length c0_7) := (blk_cell BK248.out 7).trans rfl; have hfz29_0 := blk_frozen BK248.out 0; have hfz29_1 := blk_frozen BK248.out 1; have hfz29_2 := blk_frozen BK248.out 2; have hfz29_3 := blk_frozen BK248.out 3; have hfz29_4 := blk_frozen BK248.out 4; have hfz29_5 := blk_frozen BK248.out 5; have hfz29_6 := blk_frozen BK248.out 6; have hfz29_7 := blk_frozen BK248.out 7; have hcz30_0 : w27.cell? ⟨gb249, 0, none⟩ = some (.int .i64 a1_0) := (blk_cell BK249.out 0).trans rfl; have hcz30_1 : w27.cell? ⟨gb249, 1, none⟩ = some (.int .i64 a1_1) := (blk_cell BK249.out 1).trans rfl; have hcz30_2 : w27.cell? ⟨gb249, 2, none⟩ = some (.int .i64 a1_2) := (blk_cell BK249.out 2).trans rfl; have hcz30_3 : w27.cell? ⟨gb249, 3, none⟩ = some (.int .i64 a1_3) := (blk_cell BK249.out 3).trans rfl; have hcz30_4 : w27.cell? ⟨gb249, 4, none⟩ = some (.int .i64 a1_4) := (blk_cell BK249.out 4).trans rfl; have hcz30_5 : w27.cell? ⟨gb249, 5, none⟩ = some (.int .i64 a1_5) := (blk_cell BK249.out 5).trans rfl; have hcz30_6 : w27.cell? ⟨gb249, 6, none⟩ = some (.int .i64 a1_6) := (blk_cell BK249.out 6).trans rfl; have hcz30_7 : w27.cell? ⟨gb249, 7, none⟩ = some (.slice A1_7 l1_7.length c1_7) := (blk_cell BK249.out 7).trans rfl; have hfz30_0 := blk_frozen BK249.out 0; have hfz30_1 := blk_frozen BK249.out 1; have hfz30_2 := blk_frozen BK249.out 2; have hfz30_3 := blk_frozen BK249.out 3; have hfz30_4 := blk_frozen BK249.out 4; have hfz30_5 := blk_frozen BK249.out 5; have hfz30_6 := blk_frozen BK249.out 6; have hfz30_7 := blk_frozen BK249.out 7))
            go_ret
            exact ⟨by first | rfl | (simp [errW_none, errW_some] <;> rfl) | (simp [*, errW_none, errW_some] <;> rfl), by repeat (first | (with_reducible first | exact HB.out | apply below_alloc | apply pw_below_drewN | apply below_drew1 | refine below_set ?_ GE248.out | refine below_set ?_ GE249.out) | exact HB.out)⟩
        · rw [if_neg c6] at H
          have c6b0 : (a0_3 == a1_3) = false := beq_eq_false_iff_ne.mpr c6
          have c6b1 : (a0_3 != a1_3) = true := bne_iff_ne.mpr c6
          obtain rfl := Option.some.inj H
          go_enter Tryd.func39, Tryd.ntmps39
          go_wp2_with (first | ((with_reducible refine gate_dst (N := 2) rfl ?_); refine box_event ?hg (N := 2) ?hd (cs := #[.int .i64 a0_0, .int .i64 a0_1, .int .i64 a0_2, .int .i64 a0_3, .int .i64 a0_4, .int .i64 a0_5, .int .i64 a0_6, .slice A0_7 l0_7.length c0_7]) (t := 24) ?hr ?_; (case hd => rfl); (case hg => rfl); (case hr => first | (go_simp; done) | (go_simp; rfl)); intro gb248 hg w31 hbox hb; have n0_ := Aside0.mk (below_step (by repeat (first | (with_reducible first | exact HB.out | apply below_alloc | apply pw_below_drewN | apply below_drew1) | exact HB.out)) hb); have n1_ := Aside0.mk (hbox); have n2_ := Aside0.mk ((by rw [hg]; exact (below_size (by repeat (first | (with_reducible first | exact HB.out | apply below_alloc | apply pw_below_drewN | apply below_drew1) | exact HB.out))) : w.heap.size ≤ gb248)); have n3_ := Aside0.mk ((by rw [hg]; exact (below_size (by repeat (first | (with_reducible first | exact HB.out | apply below_alloc | apply pw_below_drewN | apply below_drew1) | exact HB.out))) : w.heap.size ≤ gb248)); clear HB; have HB := n0_; have BK248 := n1_; have GW248 := n2_; have GE248 := n3_; clear n0_ n1_ n2_ n3_; clear hb hbox hg) | ((with_reducible refine gate_dst (N := 3) rfl ?_); refine box_event ?hg (N := 3) ?hd (cs := #[.int .i64 a1_0, .int .i64 a1_1, .int .i64 a1_2, .int .i64 a1_3, .int .i64 a1_4, .int .i64 a1_5, .int .i64 a1_6, .slice A1_7 l1_7.length c1_7]) (t := 24) ?hr ?_; (case hd => rfl); (case hg => rfl); (case hr => first | (go_simp; done) | (go_simp; rfl)); intro gb249 hg w32 hbox hb; have n0_ := Aside0.mk (blk_below (g := gb248) (o := .cells #[.int .i64 a0_0, .int .i64 a0_1, .int .i64 a0_2, .int .i64 a0_3, .int .i64 a0_4, .int .i64 a0_5, .int .i64 a0_6, .slice A0_7 l0_7.length c0_7] 24 (0, 0)) (by (with_reducible repeat (first | refine blk_drewN ?_ _ | refine blk_drew ?_ | refine blk_alloc ?_ _)); exact BK248.out) hb); have n1_ := Aside0.mk (below_step (by repeat (first | (with_reducible first | exact HB.out | apply below_alloc | apply pw_below_drewN | apply below_drew1 | refine below_set ?_ GE248.out) | exact HB.out)) hb); have n2_ := Aside0.mk (hbox); have n3_ := Aside0.mk ((by rw [hg]; exact (below_size (by repeat (first | (with_reducible first | exact HB.out | apply below_alloc | apply pw_below_drewN | apply below_drew1 | refine below_set ?_ GE248.out) | exact HB.out))) : w.heap.size ≤ gb249)); have n4_ := Aside0.mk ((by rw [hg]; exact (below_size (by repeat (first | (with_reducible first | exact HB.out | apply below_alloc | apply pw_below_drewN | apply below_drew1 | refine below_set ?_ GE248.out) | exact HB.out))) : w.heap.size ≤ gb249)); have n5_ := Aside0.mk ((by rw [hg]; exact Nat.ne_of_lt (blk_lt (g := gb248) (o := .cells #[.int .i64 a0_0, .int .i64 a0_1, .int .i64 a0_2, .int .i64 a0_3, .int .i64 a0_4, .int .i64 a0_5, .int .i64 a0_6, .slice A0_7 l0_7.length c0_7] 24 (0, 0)) (by (with_reducible repeat (first | refine blk_drewN ?_ _ | refine blk_drew ?_ | refine blk_alloc ?_ _)); exact BK248.out)) : gb248 ≠ gb249)); have n6_ := Aside0.mk ((by rw [hg]; exact Nat.ne_of_gt (blk_lt (g := gb248) (o := .cells #[.int .i64 a0_0, .int .i64 a0_1, .int .i64 a0_2, .int .i64 a0_3, .int .i64 a0_4, .int .i64 a0_5, .int .i64 a0_6, .slice A0_7 l0_7.length c0_7] 24 (0, 0)) (by (with_reducible repeat (first | refine blk_drewN ?_ _ | refine blk_drew ?_ | refine blk_alloc ?_ _)); exact BK248.out)) : gb249 ≠ gb248)); clear BK248; clear HB; have BK248 := n0_; have HB := n1_; have BK249 := n2_; have GW249 := n3_; have GE249 := n4_; have NB248_249 := n5_; have NB249_248 := n6_; clear n0_ n1_ n2_ n3_ n4_ n5_ n6_; clear hb hbox hg; have hnb33 := NB248_249.out; have hnc33 := NB249_248.out; have hcz34_0 : w32.cell? ⟨gb248, 0, none⟩ = some (.int .i64 a0_0) := (blk_cell BK248.out 0).trans rfl; have hcz34_1 : w32.cell? ⟨gb248, 1, none⟩ = some (.int .i64 a0_1) := (blk_cell BK248.out 1).trans rfl; have hcz34_2 : w32.cell? ⟨gb248, 2, none⟩ = some (.int .i64 a0_2) := (blk_cell BK248.out 2).trans rfl; have hcz34_3 : w32.cell? ⟨gb248, 3, none⟩ = some (.int .i64 a0_3) := (blk_cell BK248.out 3).trans rfl; have hcz34_4 : w32.cell? ⟨gb248, 4, none⟩ = some (.int .i64 a0_4) := (blk_cell BK248.out 4).trans rfl; have hcz34_5 : w32.cell? ⟨gb248, 5, none⟩ = some (.int .i64 a0_5) := (blk_cell BK248.out 5).trans rfl; have hcz34_6 : w32.cell? ⟨gb248, 6, none⟩ = some (.int .i64 a0_6) := (blk_cell BK248.out 6).trans rfl; have hcz34_7 : w32.cell? ⟨gb248, 7, none⟩ = some (.slice A0_7 l0_7.length c0_7) := (blk_cell BK248.out 7).trans rfl; have hfz34_0 := blk_frozen BK248.out 0; have hfz34_1 := blk_frozen BK248.out 1; have hfz34_2 := blk_frozen BK248.out 2; have hfz34_3 := blk_frozen BK248.out 3; have hfz34_4 := blk_frozen BK248.out 4; have hfz34_5 := blk_frozen BK248.out 5; have hfz34_6 := blk_frozen BK248.out 6; have hfz34_7 := blk_frozen BK248.out 7; have hcz35_0 : w32.cell? ⟨gb249, 0, none⟩ = some (.int .i64 a1_0) := (blk_cell BK249.out 0).trans rfl; have hcz35_1 : w32.cell? ⟨gb249, 1, none⟩ = some (.int .i64 a1_1) := (blk_cell BK249.out 1).trans rfl; have hcz35_2 : w32.cell? ⟨gb249, 2, none⟩ = some (.int .i64 a1_2) := (blk_cell BK249.out 2).trans rfl; have hcz35_3 : w32.cell? ⟨gb249, 3, none⟩ = some (.int .i64 a1_3) := (blk_cell BK249.out 3).trans rfl; have hcz35_4 : w32.cell? ⟨gb249, 4, none⟩ = some (.int .i64 a1_4) := (blk_cell BK249.out 4).trans rfl; have hcz35_5 : w32.cell? ⟨gb249, 5, none⟩ = some (.int .i64 a1_5) := (blk_cell BK249.out 5).trans rfl; have hcz35_6 : w32.cell? ⟨gb249, 6, none⟩ = some (.int .i64 a1_6) := (blk_cell BK249.out 6).trans rfl; have hcz35_7 : w32.cell? ⟨gb249, 7, none⟩ = some (.slice A1_7 l1_7.length c1_7) := (blk_cell BK249.out 7).trans rfl; have hfz35_0 := blk_frozen BK249.out 0; have hfz35_1 := blk_frozen BK249.out 1; have hfz35_2 := blk_frozen BK249.out 2; have hfz35_3 := blk_frozen BK249.out 3; have hfz35_4 := blk_frozen BK249.out 4; have hfz35_5 := blk_frozen BK249.out 5; have hfz35_6 := blk_frozen BK249.out 6; have hfz35_7 := blk_frozen BK249.out 7))
          go_ret
          exact ⟨by first | rfl | (simp [errW_none, errW_some] <;> rfl) | (simp [*, errW_none, errW_some] <;> rfl), by repeat (first | (with_reducible first | exact HB.out | apply below_alloc | apply pw_below_drewN | apply below_drew1 | refine below_set ?_ GE248.out | refine below_set ?_ GE249.out) | exact HB.out)⟩
      · rw [if_neg c5] at H
        have c5b0 : (a0_2 == a1_2) = false := beq_eq_false_iff_ne.mpr c5
        have c5b1 : (a0_2 != a1_2) = true := bne_iff_ne.mpr c5
        obtain rfl := Option.some.inj H
        go_enter Tryd.func39, Tryd.ntmps39
        go_wp2_with (first | ((with_reducible refine gate_dst (N := 2) rfl ?_); refine box_event ?hg (N := 2) ?hd (cs := #[.int .i64 a0_0, .int .i64 a0_1, .int .i64 a0_2, .int .i64 a0_3, .int .i64 a0_4, .int .i64 a0_5, .int .i64 a0_6, .slice A0_7 l0_7.length c0_7]) (t := 24) ?hr ?_; (case hd => rfl); (case hg => rfl); (case hr => first | (go_simp; done) | (go_simp; rfl)); intro gb248 hg w36 hbox hb; have n0_ := Aside0.mk (below_step (by repeat (first | (with_reducible first | exact HB.out | apply below_alloc | apply pw_below_drewN | apply below_drew1) | exact HB.out)) hb); have n1_ := Aside0.mk (hbox); have n2_ := Aside0.mk ((by rw [hg]; exact (below_size (by repeat (first | (with_reducible first | exact HB.out | apply below_alloc | apply pw_below_drewN | apply below_drew1) | exact HB.out))) : w.heap.size ≤ gb248)); have n3_ := Aside0.mk ((by rw [hg]; exact (below_size (by repeat (first | (with_reducible first | exact HB.out | apply below_alloc | apply pw_below_drewN | apply below_drew1) | exact HB.out))) : w.heap.size ≤ gb248)); clear HB; have HB := n0_; have BK248 := n1_; have GW248 := n2_; have GE248 := n3_; clear n0_ n1_ n2_ n3_; clear hb hbox hg) | ((with_reducible refine gate_dst (N := 3) rfl ?_); refine box_event ?hg (N := 3) ?hd (cs := #[.int .i64 a1_0, .int .i64 a1_1, .int .i64 a1_2, .int .i64 a1_3, .int .i64 a1_4, .int .i64 a1_5, .int .i64 a1_6, .slice A1_7 l1_7.length c1_7]) (t := 24) ?hr ?_; (case hd => rfl); (case hg => rfl); (case hr => first | (go_simp; done) | (go_simp; rfl)); intro gb249 hg w37 hbox hb; have n0_ := Aside0.mk (blk_below (g := gb248) (o := .cells #[.int .i64 a0_0, .int .i64 a0_1, .int .i64 a0_2, .int .i64 a0_3, .int .i64 a0_4, .int .i64 a0_5, .int .i64 a0_6, .slice A0_7 l0_7.length c0_7] 24 (0, 0)) (by (with_reducible repeat (first | refine blk_drewN ?_ _ | refine blk_drew ?_ | refine blk_alloc ?_ _)); exact BK248.out) hb); have n1_ := Aside0.mk (below_step (by repeat (first | (with_reducible first | exact HB.out | apply below_alloc | apply pw_below_drewN | apply below_drew1 | refine below_set ?_ GE248.out) | exact HB.out)) hb); have n2_ := Aside0.mk (hbox); have n3_ := Aside0.mk ((by rw [hg]; exact (below_size (by repeat (first | (with_reducible first | exact HB.out | apply below_alloc | apply pw_below_drewN | apply below_drew1 | refine below_set ?_ GE248.out) | exact HB.out))) : w.heap.size ≤ gb249)); have n4_ := Aside0.mk ((by rw [hg]; exact (below_size (by repeat (first | (with_reducible first | exact HB.out | apply below_alloc | apply pw_below_drewN | apply below_drew1 | refine below_set ?_ GE248.out) | exact HB.out))) : w.heap.size ≤ gb249)); have n5_ := Aside0.mk ((by rw [hg]; exact Nat.ne_of_lt (blk_lt (g := gb248) (o := .cells #[.int .i64 a0_0, .int .i64 a0_1, .int .i64 a0_2, .int .i64 a0_3, .int .i64 a0_4, .int .i64 a0_5, .int .i64 a0_6, .slice A0_7 l0_7.length c0_7] 24 (0, 0)) (by (with_reducible repeat (first | refine blk_drewN ?_ _ | refine blk_drew ?_ | refine blk_alloc ?_ _)); exact BK248.out)) : gb248 ≠ gb249)); have n6_ := Aside0.mk ((by rw [hg]; exact Nat.ne_of_gt (blk_lt (g := gb248) (o := .cells #[.int .i64 a0_0, .int .i64 a0_1, .int .i64 a0_2, .int .i64 a0_3, .int .i64 a0_4, .int .i64 a0_5, .int .i64 a0_6, .slice A0_7 l0_7.length c0_7] 24 (0, 0)) (by (with_reducible repeat (first | refine blk_drewN ?_ _ | refine blk_drew ?_ | refine blk_alloc ?_ _)); exact BK248.out)) : gb249 ≠ gb248)); clear BK248; clear HB; have BK248 := n0_; have HB := n1_; have BK249 := n2_; have GW249 := n3_; have GE249 := n4_; have NB248_249 := n5_; have NB249_248 := n6_; clear n0_ n1_ n2_ n3_ n4_ n5_ n6_; clear hb hbox hg; have hnb38 := NB248_249.out; have hnc38 := NB249_248.out; have hcz39_0 : w37.cell? ⟨gb248, 0, none⟩ = some (.int .i64 a0_0) := (blk_cell BK248.out 0).trans rfl; have hcz39_1 : w37.cell? ⟨gb248, 1, none⟩ = some (.int .i64 a0_1) := (blk_cell BK248.out 1).trans rfl; have hcz39_2 : w37.cell? ⟨gb248, 2, none⟩ = some (.int .i64 a0_2) := (blk_cell BK248.out 2).trans rfl; have hcz39_3 : w37.cell? ⟨gb248, 3, none⟩ = some (.int .i64 a0_3) := (blk_cell BK248.out 3).trans rfl; have hcz39_4 : w37.cell? ⟨gb248, 4, none⟩ = some (.int .i64 a0_4) := (blk_cell BK248.out 4).trans rfl; have hcz39_5 : w37.cell? ⟨gb248, 5, none⟩ = some (.int .i64 a0_5) := (blk_cell BK248.out 5).trans rfl; have hcz39_6 : w37.cell? ⟨gb248, 6, none⟩ = some (.int .i64 a0_6) := (blk_cell BK248.out 6).trans rfl; have hcz39_7 : w37.cell? ⟨gb248, 7, none⟩ = some (.slice A0_7 l0_7.length c0_7) := (blk_cell BK248.out 7).trans rfl; have hfz39_0 := blk_frozen BK248.out 0; have hfz39_1 := blk_frozen BK248.out 1; have hfz39_2 := blk_frozen BK248.out 2; have hfz39_3 := blk_frozen BK248.out 3; have hfz39_4 := blk_frozen BK248.out 4; have hfz39_5 := blk_frozen BK248.out 5; have hfz39_6 := blk_frozen BK248.out 6; have hfz39_7 := blk_frozen BK248.out 7; have hcz40_0 : w37.cell? ⟨gb249, 0, none⟩ = some (.int .i64 a1_0) := (blk_cell BK249.out 0).trans rfl; have hcz40_1 : w37.cell? ⟨gb249, 1, none⟩ = some (.int .i64 a1_1) := (blk_cell BK249.out 1).trans rfl; have hcz40_2 : w37.cell? ⟨gb249, 2, none⟩ = some (.int .i64 a1_2) := (blk_cell BK249.out 2).trans rfl; have hcz40_3 : w37.cell? ⟨gb249, 3, none⟩ = some (.int .i64 a1_3) := (blk_cell BK249.out 3).trans rfl; have hcz40_4 : w37.cell? ⟨gb249, 4, none⟩ = some (.int .i64 a1_4) := (blk_cell BK249.out 4).trans rfl; have hcz40_5 : w37.cell? ⟨gb249, 5, none⟩ = some (.int .i64 a1_5) := (blk_cell BK249.out 5).trans rfl; have hcz40_6 : w37.cell? ⟨gb249, 6, none⟩ = some (.int .i64 a1_6) := (blk_cell BK249.out 6).trans rfl; have hcz40_7 : w37.cell? ⟨gb249, 7, none⟩ = some (.slice A1_7 l1_7.length c1_7) := (blk_cell BK249.out 7).trans rfl; have hfz40_0 := blk_frozen BK249.out 0; have hfz40_1 := blk_frozen BK249.out 1; have hfz40_2 := blk_frozen BK249.out 2; have hfz40_3 := blk_frozen BK249.out 3; have hfz40_4 := blk_frozen BK249.out 4; have hfz40_5 := blk_frozen BK249.out 5; have hfz40_6 := blk_frozen BK249.out 6; have hfz40_7 := blk_frozen BK249.out 7))
        go_ret
        exact ⟨by first | rfl | (simp [errW_none, errW_some] <;> rfl) | (simp [*, errW_none, errW_some] <;> rfl), by repeat (first | (with_reducible first | exact HB.out | apply below_alloc | apply pw_below_drewN | apply below_drew1 | refine below_set ?_ GE248.out | refine below_set ?_ GE249.out) | exact HB.out)⟩
    · rw [if_neg c4] at H
      have c4b0 : (a0_1 == a1_1) = false := beq_eq_false_iff_ne.mpr c4
      have c4b1 : (a0_1 != a1_1) = true := bne_iff_ne.mpr c4
      obtain rfl := Option.some.inj H
      go_enter Tryd.func39, Tryd.ntmps39
      go_wp2_with (first | ((with_reducible refine gate_dst (N := 2) rfl ?_); refine box_event ?hg (N := 2) ?hd (cs := #[.int .i64 a0_0, .int .i64 a0_1, .int .i64 a0_2, .int .i64 a0_3, .int .i64 a0_4, .int .i64 a0_5, .int .i64 a0_6, .slice A0_7 l0_7.length c0_7]) (t := 24) ?hr ?_; (case hd => rfl); (case hg => rfl); (case hr => first | (go_simp; done) | (go_simp; rfl)); intro gb248 hg w41 hbox hb; have n0_ := Aside0.mk (below_step (by repeat (first | (with_reducible first | exact HB.out | apply below_alloc | apply pw_below_drewN | apply below_drew1) | exact HB.out)) hb); have n1_ := Aside0.mk (hbox); have n2_ := Aside0.mk ((by rw [hg]; exact (below_size (by repeat (first | (with_reducible first | exact HB.out | apply below_alloc | apply pw_below_drewN | apply below_drew1) | exact HB.out))) : w.heap.size ≤ gb248)); have n3_ := Aside0.mk ((by rw [hg]; exact (below_size (by repeat (first | (with_reducible first | exact HB.out | apply below_alloc | apply pw_below_drewN | apply below_drew1) | exact HB.out))) : w.heap.size ≤ gb248)); clear HB; have HB := n0_; have BK248 := n1_; have GW248 := n2_; have GE248 := n3_; clear n0_ n1_ n2_ n3_; clear hb hbox hg) | ((with_reducible refine gate_dst (N := 3) rfl ?_); refine box_event ?hg (N := 3) ?hd (cs := #[.int .i64 a1_0, .int .i64 a1_1, .int .i64 a1_2, .int .i64 a1_3, .int .i64 a1_4, .int .i64 a1_5, .int .i64 a1_6, .slice A1_7 l1_7.length c1_7]) (t := 24) ?hr ?_; (case hd => rfl); (case hg => rfl); (case hr => first | (go_simp; done) | (go_simp; rfl)); intro gb249 hg w42 hbox hb; have n0_ := Aside0.mk (blk_below (g := gb248) (o := .cells #[.int .i64 a0_0, .int .i64 a0_1, .int .i64 a0_2, .int .i64 a0_3, .int .i64 a0_4, .int .i64 a0_5, .int .i64 a0_6, .slice A0_7 l0_7.length c0_7] 24 (0, 0)) (by (with_reducible repeat (first | refine blk_drewN ?_ _ | refine blk_drew ?_ | refine blk_alloc ?_ _)); exact BK248.out) hb); have n1_ := Aside0.mk (below_step (by repeat (first | (with_reducible first | exact HB.out | apply below_alloc | apply pw_below_drewN | apply below_drew1 | refine below_set ?_ GE248.out) | exact HB.out)) hb); have n2_ := Aside0.mk (hbox); have n3_ := Aside0.mk ((by rw [hg]; exact (below_size (by repeat (first | (with_reducible first | exact HB.out | apply below_alloc | apply pw_below_drewN | apply below_drew1 | refine below_set ?_ GE248.out) | exact HB.out))) : w.heap.size ≤ gb249)); have n4_ := Aside0.mk ((by rw [hg]; exact (below_size (by repeat (first | (with_reducible first | exact HB.out | apply below_alloc | apply pw_below_drewN | apply below_drew1 | refine below_set ?_ GE248.out) | exact HB.out))) : w.heap.size ≤ gb249)); have n5_ := Aside0.mk ((by rw [hg]; exact Nat.ne_of_lt (blk_lt (g := gb248) (o := .cells #[.int .i64 a0_0, .int .i64 a0_1, .int .i64 a0_2, .int .i64 a0_3, .int .i64 a0_4, .int .i64 a0_5, .int .i64 a0_6, .slice A0_7 l0_7.length c0_7] 24 (0, 0)) (by (with_reducible repeat (first | refine blk_drewN ?_ _ | refine blk_drew ?_ | refine blk_alloc ?_ _)); exact BK248.out)) : gb248 ≠ gb249)); have n6_ := Aside0.mk ((by rw [hg]; exact Nat.ne_of_gt (blk_lt (g := gb248) (o := .cells #[.int .i64 a0_0, .int .i64 a0_1, .int .i64 a0_2, .int .i64 a0_3, .int .i64 a0_4, .int .i64 a0_5, .int .i64 a0_6, .slice A0_7 l0_7.length c0_7] 24 (0, 0)) (by (with_reducible repeat (first | refine blk_drewN ?_ _ | refine blk_drew ?_ | refine blk_alloc ?_ _)); exact BK248.out)) : gb249 ≠ gb248)); clear BK248; clear HB; have BK248 := n0_; have HB := n1_; have BK249 := n2_; have GW249 := n3_; have GE249 := n4_; have NB248_249 := n5_; have NB249_248 := n6_; clear n0_ n1_ n2_ n3_ n4_ n5_ n6_; clear hb hbox hg; have hnb43 := NB248_249.out; have hnc43 := NB249_248.out; have hcz44_0 : w42.cell? ⟨gb248, 0, none⟩ = some (.int .i64 a0_0) := (blk_cell BK248.out 0).trans rfl; have hcz44_1 : w42.cell? ⟨gb248, 1, none⟩ = some (.int .i64 a0_1) := (blk_cell BK248.out 1).trans rfl; have hcz44_2 : w42.cell? ⟨gb248, 2, none⟩ = some (.int .i64 a0_2) := (blk_cell BK248.out 2).trans rfl; have hcz44_3 : w42.cell? ⟨gb248, 3, none⟩ = some (.int .i64 a0_3) := (blk_cell BK248.out 3).trans rfl; have hcz44_4 : w42.cell? ⟨gb248, 4, none⟩ = some (.int .i64 a0_4) := (blk_cell BK248.out 4).trans rfl; have hcz44_5 : w42.cell? ⟨gb248, 5, none⟩ = some (.int .i64 a0_5) := (blk_cell BK248.out 5).trans rfl; have hcz44_6 : w42.cell? ⟨gb248, 6, none⟩ = some (.int .i64 a0_6) := (blk_cell BK248.out 6).trans rfl; have hcz44_7 : w42.cell? ⟨gb248, 7, none⟩ = some (.slice A0_7 l0_7.length c0_7) := (blk_cell BK248.out 7).trans rfl; have hfz44_0 := blk_frozen BK248.out 0; have hfz44_1 := blk_frozen BK248.out 1; have hfz44_2 := blk_frozen BK248.out 2; have hfz44_3 := blk_frozen BK248.out 3; have hfz44_4 := blk_frozen BK248.out 4; have hfz44_5 := blk_frozen BK248.out 5; have hfz44_6 := blk_frozen BK248.out 6; have hfz44_7 := blk_frozen BK248.out 7; have hcz45_0 : w42.cell? ⟨gb249, 0, none⟩ = some (.int .i64 a1_0) := (blk_cell BK249.out 0).trans rfl; have hcz45_1 : w42.cell? ⟨gb249, 1, none⟩ = some (.int .i64 a1_1) := (blk_cell BK249.out 1).trans rfl; have hcz45_2 : w42.cell? ⟨gb249, 2, none⟩ = some (.int .i64 a1_2) := (blk_cell BK249.out 2).trans rfl; have hcz45_3 : w42.cell? ⟨gb249, 3, none⟩ = some (.int .i64 a1_3) := (blk_cell BK249.out 3).trans rfl; have hcz45_4 : w42.cell? ⟨gb249, 4, none⟩ = some (.int .i64 a1_4) := (blk_cell BK249.out 4).trans rfl; have hcz45_5 : w42.cell? ⟨gb249, 5, none⟩ = some (.int .i64 a1_5) := (blk_cell BK249.out 5).trans rfl; have hcz45_6 : w42.cell? ⟨gb249, 6, none⟩ = some (.int .i64 a1_6) := (blk_cell BK249.out 6).trans rfl; have hcz45_7 : w42.cell? ⟨gb249, 7, none⟩ = some (.slice A1_7 l1_7.length c1_7) := (blk_cell BK249.out 7).trans rfl; have hfz45_0 := blk_frozen BK249.out 0; have hfz45_1 := blk_frozen BK249.out 1; have hfz45_2 := blk_frozen BK249.out 2; have hfz45_3 := blk_frozen BK249.out 3; have hfz45_4 := blk_frozen BK249.out 4; have hfz45_5 := blk_frozen BK249.out 5; have hfz45_6 := blk_frozen BK249.out 6; have hfz45_7 := blk_frozen BK249.out 7))
      go_ret
      exact ⟨by first | rfl | (simp [errW_none, errW_some] <;> rfl) | (simp [*, errW_none, errW_some] <;> rfl), by repeat (first | (with_reducible first | exact HB.out | apply below_alloc | apply pw_below_drewN | apply below_drew1 | refine below_set ?_ GE248.out | refine below_set ?_ GE249.out) | exact HB.out)⟩
  · rw [if_neg c3] at H
    have c3b0 : (a0_0 == a1_0) = false := beq_eq_false_iff_ne.mpr c3
    have c3b1 : (a0_0 != a1_0) = true := bne_iff_ne.mpr c3
    obtain rfl := Option.some.inj H
    go_enter Tryd.func39, Tryd.ntmps39
    go_wp2_with (first | ((with_reducible refine gate_dst (N := 2) rfl ?_); refine box_event ?hg (N := 2) ?hd (cs := #[.int .i64 a0_0, .int .i64 a0_1, .int .i64 a0_2, .int .i64 a0_3, .int .i64 a0_4, .int .i64 a0_5, .int .i64 a0_6, .slice A0_7 l0_7.length c0_7]) (t := 24) ?hr ?_; (case hd => rfl); (case hg => rfl); (case hr => first | (go_simp; done) | (go_simp; rfl)); intro gb248 hg w46 hbox hb; have n0_ := Aside0.mk (below_step (by repeat (first | (with_reducible first | exact HB.out | apply below_alloc | apply pw_below_drewN | apply below_drew1) | exact HB.out)) hb); have n1_ := Aside0.mk (hbox); have n2_ := Aside0.mk ((by rw [hg]; exact (below_size (by repeat (first | (with_reducible first | exact HB.out | apply below_alloc | apply pw_below_drewN | apply below_drew1) | exact HB.out))) : w.heap.size ≤ gb248)); have n3_ := Aside0.mk ((by rw [hg]; exact (below_size (by repeat (first | (with_reducible first | exact HB.out | apply below_alloc | apply pw_below_drewN | apply below_drew1) | exact HB.out))) : w.heap.size ≤ gb248)); clear HB; have HB := n0_; have BK248 := n1_; have GW248 := n2_; have GE248 := n3_; clear n0_ n1_ n2_ n3_; clear hb hbox hg) | ((with_reducible refine gate_dst (N := 3) rfl ?_); refine box_event ?hg (N := 3) ?hd (cs := #[.int .i64 a1_0, .int .i64 a1_1, .int .i64 a1_2, .int .i64 a1_3, .int .i64 a1_4, .int .i64 a1_5, .int .i64 a1_6, .slice A1_7 l1_7.length c1_7]) (t := 24) ?hr ?_; (case hd => rfl); (case hg => rfl); (case hr => first | (go_simp; done) | (go_simp; rfl)); intro gb249 hg w47 hbox hb; have n0_ := Aside0.mk (blk_below (g := gb248) (o := .cells #[.int .i64 a0_0, .int .i64 a0_1, .int .i64 a0_2, .int .i64 a0_3, .int .i64 a0_4, .int .i64 a0_5, .int .i64 a0_6, .slice A0_7 l0_7.length c0_7] 24 (0, 0)) (by (with_reducible repeat (first | refine blk_drewN ?_ _ | refine blk_drew ?_ | refine blk_alloc ?_ _)); exact BK248.out) hb); have n1_ := Aside0.mk (below_step (by repeat (first | (with_reducible first | exact HB.out | apply below_alloc | apply pw_below_drewN | apply below_drew1 | refine below_set ?_ GE248.out) | exact HB.out)) hb); have n2_ := Aside0.mk (hbox); have n3_ := Aside0.mk ((by rw [hg]; exact (below_size (by repeat (first | (with_reducible first | exact HB.out | apply below_alloc | apply pw_below_drewN | apply below_drew1 | refine below_set ?_ GE248.out) | exact HB.out))) : w.heap.size ≤ gb249)); have n4_ := Aside0.mk ((by rw [hg]; exact (below_size (by repeat (first | (with_reducible first | exact HB.out | apply below_alloc | apply pw_below_drewN | apply below_drew1 | refine below_set ?_ GE248.out) | exact HB.out))) : w.heap.size ≤ gb249)); have n5_ := Aside0.mk ((by rw [hg]; exact Nat.ne_of_lt (blk_lt (g := gb248) (o := .cells #[.int .i64 a0_0, .int .i64 a0_1, .int .i64 a0_2, .int .i64 a0_3, .int .i64 a0_4, .int .i64 a0_5, .int .i64 a0_6, .slice A0_7 l0_7.length c0_7] 24 (0, 0)) (by (with_reducible repeat (first | refine blk_drewN ?_ _ | refine blk_drew ?_ | refine blk_alloc ?_ _)); exact BK248.out)) : gb248 ≠ gb249)); have n6_ := Aside0.mk ((by rw [hg]; exact Nat.ne_of_gt (blk_lt (g := gb248) (o := .cells #[.int .i64 a0_0, .int .i64 a0_1, .int .i64 a0_2, .int .i64 a0_3, .int .i64 a0_4, .int .i64 a0_5, .int .i64 a0_6, .slice A0_7 l0_7.length c0_7] 24 (0, 0)) (by (with_reducible repeat (first | refine blk_drewN ?_ _ | refine blk_drew ?_ | refine blk_alloc ?_ _)); exact BK248.out)) : gb249 ≠ gb248)); clear BK248; clear HB; have BK248 := n0_; have HB := n1_; have BK249 := n2_; have GW249 := n3_; have GE249 := n4_; have NB248_249 := n5_; have NB249_248 := n6_; clear n0_ n1_ n2_ n3_ n4_ n5_ n6_; clear hb hbox hg; have hnb48 := NB248_249.out; have hnc48 := NB249_248.out; have hcz49_0 : w47.cell? ⟨gb248, 0, none⟩ = some (.int .i64 a0_0) := (blk_cell BK248.out 0).trans rfl; have hcz49_1 : w47.cell? ⟨gb248, 1, none⟩ = some (.int .i64 a0_1) := (blk_cell BK248.out 1).trans rfl; have hcz49_2 : w47.cell? ⟨gb248, 2, none⟩ = some (.int .i64 a0_2) := (blk_cell BK248.out 2).trans rfl; have hcz49_3 : w47.cell? ⟨gb248, 3, none⟩ = some (.int .i64 a0_3) := (blk_cell BK248.out 3).trans rfl; have hcz49_4 : w47.cell? ⟨gb248, 4, none⟩ = some (.int .i64 a0_4) := (blk_cell BK248.out 4).trans rfl; have hcz49_5 : w47.cell? ⟨gb248, 5, none⟩ = some (.int .i64 a0_5) := (blk_cell BK248.out 5).trans rfl; have hcz49_6 : w47.cell? ⟨gb248, 6, none⟩ = some (.int .i64 a0_6) := (blk_cell BK248.out 6).trans rfl; have hcz49_7 : w47.cell? ⟨gb248, 7, none⟩ = some (.slice A0_7 l0_7.length c0_7) := (blk_cell BK248.out 7).trans rfl; have hfz49_0 := blk_frozen BK248.out 0; have hfz49_1 := blk_frozen BK248.out 1; have hfz49_2 := blk_frozen BK248.out 2; have hfz49_3 := blk_frozen BK248.out 3; have hfz49_4 := blk_frozen BK248.out 4; have hfz49_5 := blk_frozen BK248.out 5; have hfz49_6 := blk_frozen BK248.out 6; have hfz49_7 := blk_frozen BK248.out 7; have hcz50_0 : w47.cell? ⟨gb249, 0, none⟩ = some (.int .i64 a1_0) := (blk_cell BK249.out 0).trans rfl; have hcz50_1 : w47.cell? ⟨gb249, 1, none⟩ = some (.int .i64 a1_1) := (blk_cell BK249.out 1).trans rfl; have hcz50_2 : w47.cell? ⟨gb249, 2, none⟩ = some (.int .i64 a1_2) := (blk_cell BK249.out 2).trans rfl; have hcz50_3 : w47.cell? ⟨gb249, 3, none⟩ = some (.int .i64 a1_3) := (blk_cell BK249.out 3).trans rfl; have hcz50_4 : w47.cell? ⟨gb249, 4, none⟩ = some (.int .i64 a1_4) := (blk_cell BK249.out 4).trans rfl; have hcz50_5 : w47.cell? ⟨gb249, 5, none⟩ = some (.int .i64 a1_5) := (blk_cell BK249.out 5).trans rfl; have hcz50_6 : w47.cell? ⟨gb249, 6, none⟩ = some (.int .i64 a1_6) := (blk_cell BK249.out 6).trans rfl; have hcz50_7 : w47.cell? ⟨gb249, 7, none⟩ = some (.slice A1_7 l1_7.length c1_7) := (blk_cell BK249.out 7).trans rfl; have hfz50_0 := blk_frozen BK249.out 0; have hfz50_1 := blk_frozen BK249.out 1; have hfz50_2 := blk_frozen BK249.out 2; have hfz50_3 := blk_frozen BK249.out 3; have hfz50_4 := blk_frozen BK249.out 4; have hfz50_5 := blk_frozen BK249.out 5; have hfz50_6 := blk_frozen BK249.out 6; have hfz50_7 := blk_frozen BK249.out 7))
    go_ret
    exact ⟨by first | rfl | (simp [errW_none, errW_some] <;> rfl) | (simp [*, errW_none, errW_some] <;> rfl), by repeat (first | (with_reducible first | exact HB.out | apply below_alloc | apply pw_below_drewN | apply below_drew1 | refine below_set ?_ GE248.out | refine below_set ?_ GE249.out) | exact HB.out)⟩
def squintlaw18_sameEvents.l0 : Nat → List (S24) → List (S24) → Int → Option (Bool)
  | 0, _, _, _ => none
  | k + 1, x0, x1, x5 => if x5 < (x0.length : Int) then (if 0 ≤ x5 then (if x5 < (x1.length : Int) then ((squintlaw18_sameEvent.f k ((rd_T24 x0 x5).f0) ((rd_T24 x0 x5).f1) ((rd_T24 x0 x5).f2) ((rd_T24 x0 x5).f3) ((rd_T24 x0 x5).f4) ((rd_T24 x0 x5).f5) ((rd_T24 x0 x5).f6) ((rd_T24 x0 x5).f7) ((rd_T24 x1 x5).f0) ((rd_T24 x1 x5).f1) ((rd_T24 x1 x5).f2) ((rd_T24 x1 x5).f3) ((rd_T24 x1 x5).f4) ((rd_T24 x1 x5).f5) ((rd_T24 x1 x5).f6) ((rd_T24 x1 x5).f7)).bind fun t253 => (if t253 = true then (squintlaw18_sameEvents.l0 k x0 x1 (wrap64 (x5 + 1))) else (some false))) else (none)) else (none)) else (some true)
def squintlaw18_sameEvents.f (k : Nat) (l0 : List (S24)) (l1 : List (S24)) : Option (Bool) := if (l0.length : Int) = (l1.length : Int) then (squintlaw18_sameEvents.l0 k l0 l1 0) else (some false)
def squintlaw18_sameEvents.T6 : Bool × List (List Nat × List Nat) := (true, [([], []), ([], []), ([0, 1], [0, 1]), ([2], [2]), ([], []), ([], []), ([4, 5], [4, 5]), ([6], [6]), ([3, 7], [3, 7]), ([8], [8])])
def squintlaw18_sameEvents.B6 : List Nat := [0, 0, 3, 7, 0, 0, 48, 112, 255, 511]
theorem squintlaw18_sameEvents.tab6 : rtab .any (opsOf Tryd.f20 6) = squintlaw18_sameEvents.T6 := by kernel_rfl
theorem squintlaw18_sameEvents.bits6 : waitsOk squintlaw18_sameEvents.T6.2 squintlaw18_sameEvents.B6 = true := by kernel_rfl
set_option maxHeartbeats 8000000 in
set_option maxRecDepth 100000 in
theorem squintlaw18_sameEvents.calls (k : Nat) (A0 : Option Addr) (c0 : Nat) (l0 : List (S24)) (A1 : Option Addr) (c1 : Nat) (l1 : List (S24)) (r : Bool) (w : World) (hr0 : Kd.C k24 w A0 l0.length l0) (hc0 : l0.length ≤ c0) (hr1 : Kd.C k24 w A1 l1.length l1) (hc1 : l1.length ≤ c1) (h : squintlaw18_sameEvents.f k l0 l1 = some r) :
    Calls Tryd.prog 20 #[.slice A0 l0.length c0, .slice A1 l1.length c1] w fun e w' => e = .returned (.bool r) ∧ Below w.heap.size w w' := by
  have hu24 := Tryd.underlying24
  have HR0 := Aside0.mk hr0
  have HC0 := Aside0.mk hc0
  clear hr0 hc0
  have HR1 := Aside0.mk hr1
  have HC1 := Aside0.mk hc1
  clear hr1 hc1
  have HB := Aside0.mk (Below.refl w.heap.size w)
  have H : (if (l0.length : Int) = (l1.length : Int) then (squintlaw18_sameEvents.l0 k l0 l1 0) else (some false)) = some r := h
  clear h
  by_cases c3 : (l0.length : Int) = (l1.length : Int)
  · rw [if_pos c3] at H
    have c3b0 : ((l0.length : Int) == (l1.length : Int)) = true := beq_iff_eq.mpr c3
    have c3b1 : ((l0.length : Int) != (l1.length : Int)) = false := bne_eq_false_iff_eq.mpr c3
    have c3b2 : (l0.length == l1.length) = true := by first | simpa using c3 | (simp at c3 ⊢; omega)
    clear c3
    have H' := Aside0.mk H
    clear H
    go_enter Tryd.func20, Tryd.ntmps20
    go_wp2
    go_loopg [5] k (fun kq v5 w' => ∃ (x5_1 : Int), v5 = .int .i64 x5_1 ∧ Aside0 (squintlaw18_sameEvents.l0 kq l0 l1 x5_1 = some r) ∧ Aside0 (kq ≤ k) ∧ Aside0 (Below w.heap.size w w'))
    case atStart => exact ⟨(0), (by first | rfl | (simp; done) | (simp [*]; done)), H', ⟨Nat.le_refl _⟩, ⟨by repeat (first | (with_reducible first | exact HB.out | apply below_alloc | apply pw_below_drewN | apply below_drew1) | exact HB.out)⟩⟩
    case round =>
      clear H'
      try clear c1
      try clear c2
      try clear p2
      try clear c3
      try clear c3b0
      try clear c3b1
      try clear c3b2
      obtain ⟨x5_1, rfl, HA, HK1, HB⟩ := hrel
      cases gk with
      | zero => exact absurd HA.out (by simp [squintlaw18_sameEvents.l0])
      | succ k1 =>
        have H := HA.out
        clear HA
        simp only [squintlaw18_sameEvents.l0] at H
        by_cases c4 : x5_1 < (l0.length : Int)
        · rw [if_pos c4] at H
          have c4b0 : decide (x5_1 < (l0.length : Int)) = true := decide_eq_true c4
          clear c4
          by_cases c5 : 0 ≤ x5_1
          · rw [if_pos c5] at H
            have c5b0 : decide (0 ≤ x5_1) = true := decide_eq_true c5
            clear c5
            by_cases c6 : x5_1 < (l1.length : Int)
            · rw [if_pos c6] at H
              have c6b0 : decide (x5_1 < (l1.length : Int)) = true := decide_eq_true c6
              clear c6
              replace H := Option.bind_eq_some_iff.mp H
              obtain ⟨t253, A70, H⟩ := H
              replace H : (if t253 = true then (squintlaw18_sameEvents.l0 k1 l0 l1 (wrap64 (x5_1 + 1))) else (some false)) = some r := H
              have A7 := Aside0.mk A70
              clear A70
              by_cases c8 : t253 = true
              · subst c8
                have H1 : (squintlaw18_sameEvents.l0 k1 l0 l1 (wrap64 (x5_1 + 1))) = some r := by rw [if_pos rfl] at H; exact H
                clear H
                have H := H1
                clear H1
                have H' := Aside0.mk H
                clear H
                try go_wp2
                have n0_ := Aside0.mk (below_drew1 HB.out)
                clear HB
                have HB := n0_
                clear n0_
                have p251 : 0 ≤ (x5_1 : Int) := of_decide_eq_true (by first | (with_reducible assumption) | assumption)
                have q251 : x5_1 < (l0.length : Int) := of_decide_eq_true (by first | (with_reducible assumption) | assumption)
                obtain ⟨ad251, A251_7, c251_7, e251, hx251_0, hx251_1, hx251_2, hx251_3, hx251_4, hx251_5, hx251_6, hx251_7, hl251_7, hi251_7⟩ := at_T24 HR0.out x5_1 p251 q251
                have hw251_7 := hx251_7
                have hw251_6 := hx251_6
                have hw251_5 := hx251_5
                have hw251_4 := hx251_4
                have hw251_3 := hx251_3
                have hw251_2 := hx251_2
                have hw251_1 := hx251_1
                have hw251_0 := hx251_0
                cases e251
                replace hx251_0 := (HB.out.cell (World.block_lt_of_cell? w _ hx251_0)).trans hx251_0
                replace hx251_1 := (HB.out.cell (World.block_lt_of_cell? w _ hx251_1)).trans hx251_1
                replace hx251_2 := (HB.out.cell (World.block_lt_of_cell? w _ hx251_2)).trans hx251_2
                replace hx251_3 := (HB.out.cell (World.block_lt_of_cell? w _ hx251_3)).trans hx251_3
                replace hx251_4 := (HB.out.cell (World.block_lt_of_cell? w _ hx251_4)).trans hx251_4
                replace hx251_5 := (HB.out.cell (World.block_lt_of_cell? w _ hx251_5)).trans hx251_5
                replace hx251_6 := (HB.out.cell (World.block_lt_of_cell? w _ hx251_6)).trans hx251_6
                replace hx251_7 := (HB.out.cell (World.block_lt_of_cell? w _ hx251_7)).trans hx251_7
                have HR251_7 := Aside0.mk hi251_7
                have HC251_7 := Aside0.mk hl251_7
                clear hi251_7 hl251_7
                replace p251 := eq_true p251
                replace q251 := eq_true q251
                have p252 : 0 ≤ (x5_1 : Int) := of_decide_eq_true (by first | (with_reducible assumption) | assumption)
                have q252 : x5_1 < (l1.length : Int) := of_decide_eq_true (by first | (with_reducible assumption) | assumption)
                obtain ⟨ad252, A252_7, c252_7, e252, hx252_0, hx252_1, hx252_2, hx252_3, hx252_4, hx252_5, hx252_6, hx252_7, hl252_7, hi252_7⟩ := at_T24 HR1.out x5_1 p252 q252
                have hw252_7 := hx252_7
                have hw252_6 := hx252_6
                have hw252_5 := hx252_5
                have hw252_4 := hx252_4
                have hw252_3 := hx252_3
                have hw252_2 := hx252_2
                have hw252_1 := hx252_1
                have hw252_0 := hx252_0
                cases e252
                replace hx252_0 := (HB.out.cell (World.block_lt_of_cell? w _ hx252_0)).trans hx252_0
                replace hx252_1 := (HB.out.cell (World.block_lt_of_cell? w _ hx252_1)).trans hx252_1
                replace hx252_2 := (HB.out.cell (World.block_lt_of_cell? w _ hx252_2)).trans hx252_2
                replace hx252_3 := (HB.out.cell (World.block_lt_of_cell? w _ hx252_3)).trans hx252_3
                replace hx252_4 := (HB.out.cell (World.block_lt_of_cell? w _ hx252_4)).trans hx252_4
                replace hx252_5 := (HB.out.cell (World.block_lt_of_cell? w _ hx252_5)).trans hx252_5
                replace hx252_6 := (HB.out.cell (World.block_lt_of_cell? w _ hx252_6)).trans hx252_6
                replace hx252_7 := (HB.out.cell (World.block_lt_of_cell? w _ hx252_7)).trans hx252_7
                have HR252_7 := Aside0.mk hi252_7
                have HC252_7 := Aside0.mk hl252_7
                clear hi252_7 hl252_7
                replace p252 := eq_true p252
                replace q252 := eq_true q252
                refine start_ (n := 10) (S := fun w' => w'.cell? (ad251.add ((x5_1).toNat * 8)) = some (.int .i64 ((rd_T24 l0 x5_1).f0)) ∧ w'.cell? ⟨(ad251.add ((x5_1).toNat * 8)).block, (ad251.add ((x5_1).toNat * 8)).off + 1, none⟩ = some (.int .i64 ((rd_T24 l0 x5_1).f1)) ∧ w'.cell? ⟨(ad251.add ((x5_1).toNat * 8)).block, (ad251.add ((x5_1).toNat * 8)).off + 2, none⟩ = some (.int .i64 ((rd_T24 l0 x5_1).f2)) ∧ w'.cell? ⟨(ad251.add ((x5_1).toNat * 8)).block, (ad251.add ((x5_1).toNat * 8)).off + 3, none⟩ = some (.int .i64 ((rd_T24 l0 x5_1).f3)) ∧ w'.cell? ⟨(ad251.add ((x5_1).toNat * 8)).block, (ad251.add ((x5_1).toNat * 8)).off + 4, none⟩ = some (.int .i64 ((rd_T24 l0 x5_1).f4)) ∧ w'.cell? ⟨(ad251.add ((x5_1).toNat * 8)).block, (ad251.add ((x5_1).toNat * 8)).off + 5, none⟩ = some (.int .i64 ((rd_T24 l0 x5_1).f5)) ∧ w'.cell? ⟨(ad251.add ((x5_1).toNat * 8)).block, (ad251.add ((x5_1).toNat * 8)).off + 6, none⟩ = some (.int .i64 ((rd_T24 l0 x5_1).f6)) ∧ w'.cell? ⟨(ad251.add ((x5_1).toNat * 8)).block, (ad251.add ((x5_1).toNat * 8)).off + 7, none⟩ = some (.slice A251_7 ((rd_T24 l0 x5_1).f7).length c251_7) ∧ w'.cell? (ad252.add ((x5_1).toNat * 8)) = some (.int .i64 ((rd_T24 l1 x5_1).f0)) ∧ w'.cell? ⟨(ad252.add ((x5_1).toNat * 8)).block, (ad252.add ((x5_1).toNat * 8)).off + 1, none⟩ = some (.int .i64 ((rd_T24 l1 x5_1).f1)) ∧ w'.cell? ⟨(ad252.add ((x5_1).toNat * 8)).block, (ad252.add ((x5_1).toNat * 8)).off + 2, none⟩ = some (.int .i64 ((rd_T24 l1 x5_1).f2)) ∧ w'.cell? ⟨(ad252.add ((x5_1).toNat * 8)).block, (ad252.add ((x5_1).toNat * 8)).off + 3, none⟩ = some (.int .i64 ((rd_T24 l1 x5_1).f3)) ∧ w'.cell? ⟨(ad252.add ((x5_1).toNat * 8)).block, (ad252.add ((x5_1).toNat * 8)).off + 4, none⟩ = some (.int .i64 ((rd_T24 l1 x5_1).f4)) ∧ w'.cell? ⟨(ad252.add ((x5_1).toNat * 8)).block, (ad252.add ((x5_1).toNat * 8)).off + 5, none⟩ = some (.int .i64 ((rd_T24 l1 x5_1).f5)) ∧ w'.cell? ⟨(ad252.add ((x5_1).toNat * 8)).block, (ad252.add ((x5_1).toNat * 8)).off + 6, none⟩ = some (.int .i64 ((rd_T24 l1 x5_1).f6)) ∧ w'.cell? ⟨(ad252.add ((x5_1).toNat * 8)).block, (ad252.add ((x5_1).toNat * 8)).off + 7, none⟩ = some (.slice A252_7 ((rd_T24 l1 x5_1).f7).length c252_7)) (ds := []) #[false, false, false, false, false, false, false, false, false, false] (by kernel_rfl) rfl rfl ⟨((HB.out.cell (World.block_lt_of_cell? w _ hw251_0)).trans hw251_0), ((HB.out.cell (World.block_lt_of_cell? w _ hw251_1)).trans hw251_1), ((HB.out.cell (World.block_lt_of_cell? w _ hw251_2)).trans hw251_2), ((HB.out.cell (World.block_lt_of_cell? w _ hw251_3)).trans hw251_3), ((HB.out.cell (World.block_lt_of_cell? w _ hw251_4)).trans hw251_4), ((HB.out.cell (World.block_lt_of_cell? w _ hw251_5)).trans hw251_5), ((HB.out.cell (World.block_lt_of_cell? w _ hw251_6)).trans hw251_6), ((HB.out.cell (World.block_lt_of_cell? w _ hw251_7)).trans hw251_7), ((HB.out.cell (World.block_lt_of_cell? w _ hw252_0)).trans hw252_0), ((HB.out.cell (World.block_lt_of_cell? w _ hw252_1)).trans hw252_1), ((HB.out.cell (World.block_lt_of_cell? w _ hw252_2)).trans hw252_2), ((HB.out.cell (World.block_lt_of_cell? w _ hw252_3)).trans hw252_3), ((HB.out.cell (World.block_lt_of_cell? w _ hw252_4)).trans hw252_4), ((HB.out.cell (World.block_lt_of_cell? w _ hw252_5)).trans hw252_5), ((HB.out.cell (World.block_lt_of_cell? w _ hw252_6)).trans hw252_6), ((HB.out.cell (World.block_lt_of_cell? w _ hw252_7)).trans hw252_7)⟩ (fun hHeld => ?_); refine with_tabW squintlaw18_sameEvents.tab6 squintlaw18_sameEvents.bits6 (fun HT_ HW_ => ?_)
                generalize wr.drew = w9 at HB HR251_7 HR252_7 hx251_0 hx251_1 hx251_2 hx251_3 hx251_4 hx251_5 hx251_6 hx251_7 hx252_0 hx252_1 hx252_2 hx252_3 hx252_4 hx252_5 hx252_6 hx252_7 hHeld ⊢
                refine pure_ (i := 0) (N := some 17) (v := ?_) (a' := ?_) #[true, false, false, false, false, false, false, false, false, false] rfl rfl (any_of HT_.out (by kernel_rfl)) (fun _ _ _ h => h) (Or.inl ⟨by rfl, ?_⟩) ?_ ?_
                rotate_left
                · intro w'
                  go_simp
                  with_reducible rfl
                rotate_left
                · simp only [Act.put, List.setIfInBounds_toArray, List.set_cons_zero, List.set_cons_succ, i64_w, i32_w]
                  rfl
                refine pure_ (i := 1) (N := some 18) (v := ?_) (a' := ?_) #[true, true, false, false, false, false, false, false, false, false] rfl rfl (any_of HT_.out (by kernel_rfl)) (fun _ _ _ h => h) (Or.inl ⟨by rfl, ?_⟩) ?_ ?_
                rotate_left
                · intro w'
                  go_simp
                  with_reducible rfl
                rotate_left
                · simp only [Act.put, List.setIfInBounds_toArray, List.set_cons_zero, List.set_cons_succ, i64_w, i32_w]
                  rfl
                refine pure_ (i := 2) (N := some 19) (v := ?_) (a' := ?_) #[true, true, true, false, false, false, false, false, false, false] rfl rfl (any_of HT_.out (by kernel_rfl)) (fun _ _ _ h => h) (Or.inl ⟨by rfl, ?_⟩) ?_ ?_
                rotate_left
                · intro w'
                  go_simp
                  with_reducible rfl
                rotate_left
                · simp only [Act.put, List.setIfInBounds_toArray, List.set_cons_zero, List.set_cons_succ, i64_w, i32_w]
                  rfl
                refine pure_ (i := 4) (N := some 21) (v := ?_) (a' := ?_) #[true, true, true, false, true, false, false, false, false, false] rfl rfl (any_of HT_.out (by kernel_rfl)) (fun _ _ _ h => h) (Or.inl ⟨by rfl, ?_⟩) ?_ ?_
                rotate_left
                · intro w'
                  go_simp
                  with_reducible rfl
                rotate_left
                · simp only [Act.put, List.setIfInBounds_toArray, List.set_cons_zero, List.set_cons_succ, i64_w, i32_w]
                  rfl
                refine pure_ (i := 5) (N := some 22) (v := ?_) (a' := ?_) #[true, true, true, false, true, true, false, false, false, false] rfl rfl (any_of HT_.out (by kernel_rfl)) (fun _ _ _ h => h) (Or.inl ⟨by rfl, ?_⟩) ?_ ?_
                rotate_left
                · intro w'
                  go_simp
                  with_reducible rfl
                rotate_left
                · simp only [Act.put, List.setIfInBounds_toArray, List.set_cons_zero, List.set_cons_succ, i64_w, i32_w]
                  rfl
                refine pure_ (i := 6) (N := some 23) (v := ?_) (a' := ?_) #[true, true, true, false, true, true, true, false, false, false] rfl rfl (any_of HT_.out (by kernel_rfl)) (fun _ _ _ h => h) (Or.inl ⟨by rfl, ?_⟩) ?_ ?_
                rotate_left
                · intro w'
                  go_simp
                  with_reducible rfl
                rotate_left
                · simp only [Act.put, List.setIfInBounds_toArray, List.set_cons_zero, List.set_cons_succ, i64_w, i32_w]
                  rfl
                refine take_ (i := 3) (N := some 20) (v := ?_) (a' := ?_) #[true, true, true, true, true, true, true, false, false, false] rfl rfl (take_ofW HT_.out HW_.out (by kernel_rfl)) (fun _ _ _ h => h) (Or.inl ⟨by rfl, ?_⟩) hHeld ?_ ?_
                rotate_left
                · rintro w' ⟨s0, s1, s2, s3, s4, s5, s6, s7, s8, s9, s10, s11, s12, s13, s14, s15⟩
                  go_simp
                  with_reducible rfl
                rotate_left
                · simp only [Act.put, List.setIfInBounds_toArray, List.set_cons_zero, List.set_cons_succ, i64_w, i32_w]
                  rfl
                refine take_ (i := 7) (N := some 24) (v := ?_) (a' := ?_) #[true, true, true, true, true, true, true, true, false, false] rfl rfl (take_ofW HT_.out HW_.out (by kernel_rfl)) (fun _ _ _ h => h) (Or.inl ⟨by rfl, ?_⟩) hHeld ?_ ?_
                rotate_left
                · rintro w' ⟨s0, s1, s2, s3, s4, s5, s6, s7, s8, s9, s10, s11, s12, s13, s14, s15⟩
                  go_simp
                  with_reducible rfl
                rotate_left
                · simp only [Act.put, List.setIfInBounds_toArray, List.set_cons_zero, List.set_cons_succ, i64_w, i32_w]
                  rfl
                refine one_ (i := 8) (N := some 25) #[true, true, true, true, true, true, true, true, true, false] rfl rfl (one_of HT_.out (by kernel_rfl)) (by decide) (fun K hK => ?_)
                refine goes_ Tryd.func39 (by kernel_rfl) rfl #[.agg #[.int .i64 ((rd_T24 l0 x5_1).f0), .int .i64 ((rd_T24 l0 x5_1).f1), .int .i64 ((rd_T24 l0 x5_1).f2), .int .i64 ((rd_T24 l0 x5_1).f3), .int .i64 ((rd_T24 l0 x5_1).f4), .int .i64 ((rd_T24 l0 x5_1).f5), .int .i64 ((rd_T24 l0 x5_1).f6), .slice A251_7 ((rd_T24 l0 x5_1).f7).length c251_7], .agg #[.int .i64 ((rd_T24 l1 x5_1).f0), .int .i64 ((rd_T24 l1 x5_1).f1), .int .i64 ((rd_T24 l1 x5_1).f2), .int .i64 ((rd_T24 l1 x5_1).f3), .int .i64 ((rd_T24 l1 x5_1).f4), .int .i64 ((rd_T24 l1 x5_1).f5), .int .i64 ((rd_T24 l1 x5_1).f6), .slice A252_7 ((rd_T24 l1 x5_1).f7).length c252_7]] (by rfl) rfl rfl (by (try simp only [List.map_toArray, List.map_cons, List.map_nil]); first | done | rfl | (simp only [List.length_drop, List.length_take]; rfl)) ?_
                with_reducible refine (squintlaw18_sameEvent.calls k1 ((rd_T24 l0 x5_1).f0) ((rd_T24 l0 x5_1).f1) ((rd_T24 l0 x5_1).f2) ((rd_T24 l0 x5_1).f3) ((rd_T24 l0 x5_1).f4) ((rd_T24 l0 x5_1).f5) ((rd_T24 l0 x5_1).f6) _ _ ((rd_T24 l0 x5_1).f7) ((rd_T24 l1 x5_1).f0) ((rd_T24 l1 x5_1).f1) ((rd_T24 l1 x5_1).f2) ((rd_T24 l1 x5_1).f3) ((rd_T24 l1 x5_1).f4) ((rd_T24 l1 x5_1).f5) ((rd_T24 l1 x5_1).f6) _ _ ((rd_T24 l1 x5_1).f7) true _ ?side1 ?side2 ?side3 ?side4 A7.out).mono ?_
                (case side1 => repeat (first | exact (Kd.C_below HR251_7.out HB.out) | (with_reducible refine Kd.C_alloc ?_ _) | (with_reducible refine Kd.C_drewN ?_ _) | (with_reducible refine Kd.C_drew ?_)))
                (case side2 => exact HC251_7.out)
                (case side3 => repeat (first | exact (Kd.C_below HR252_7.out HB.out) | (with_reducible refine Kd.C_alloc ?_ _) | (with_reducible refine Kd.C_drewN ?_ _) | (with_reducible refine Kd.C_drew ?_)))
                (case side4 => exact HC252_7.out)
                rintro e w10 ⟨rfl, hb⟩
                refine ⟨_, rfl, ?_⟩
                have n0_ := Aside0.mk (below_step (by repeat (first | (with_reducible first | exact HB.out | apply below_alloc | apply pw_below_drewN | apply below_drew1) | exact HB.out)) hb)
                clear HB
                have HB := n0_
                clear n0_
                (try clear hb)
                (try clear hb2)
                (try clear hk)
                (try clear hi)
                refine hK.out _ _ ⟨((HB.out.cell (World.block_lt_of_cell? w _ hw251_0)).trans hw251_0), ((HB.out.cell (World.block_lt_of_cell? w _ hw251_1)).trans hw251_1), ((HB.out.cell (World.block_lt_of_cell? w _ hw251_2)).trans hw251_2), ((HB.out.cell (World.block_lt_of_cell? w _ hw251_3)).trans hw251_3), ((HB.out.cell (World.block_lt_of_cell? w _ hw251_4)).trans hw251_4), ((HB.out.cell (World.block_lt_of_cell? w _ hw251_5)).trans hw251_5), ((HB.out.cell (World.block_lt_of_cell? w _ hw251_6)).trans hw251_6), ((HB.out.cell (World.block_lt_of_cell? w _ hw251_7)).trans hw251_7), ((HB.out.cell (World.block_lt_of_cell? w _ hw252_0)).trans hw252_0), ((HB.out.cell (World.block_lt_of_cell? w _ hw252_1)).trans hw252_1), ((HB.out.cell (World.block_lt_of_cell? w _ hw252_2)).trans hw252_2), ((HB.out.cell (World.block_lt_of_cell? w _ hw252_3)).trans hw252_3), ((HB.out.cell (World.block_lt_of_cell? w _ hw252_4)).trans hw252_4), ((HB.out.cell (World.block_lt_of_cell? w _ hw252_5)).trans hw252_5), ((HB.out.cell (World.block_lt_of_cell? w _ hw252_6)).trans hw252_6), ((HB.out.cell (World.block_lt_of_cell? w _ hw252_7)).trans hw252_7)⟩ (fun hHeld => ?_)
                clear hK K
                refine norm_ (a' := ?_) ?_ ?_
                rotate_left
                · show Act.put _ (some 25) _ = _
                  simp only [Act.put, List.setIfInBounds_toArray, List.set_cons_zero, List.set_cons_succ, i64_w, i32_w]
                  rfl
                refine pure_ (i := 9) (N := some 26) (v := ?_) (a' := ?_) #[true, true, true, true, true, true, true, true, true, true] rfl rfl (any_of HT_.out (by kernel_rfl)) (fun _ _ _ h => h) (Or.inl ⟨by rfl, ?_⟩) ?_ ?_
                rotate_left
                · intro w'
                  go_simp
                  with_reducible rfl
                rotate_left
                · simp only [Act.put, List.setIfInBounds_toArray, List.set_cons_zero, List.set_cons_succ, i64_w, i32_w]
                  rfl
                refine done_ (done_of HT_.out (by kernel_rfl)) ?_
                try go_wp2
                go_roundg k1
                case measure => have := HK1.out; omega
                case rel => exact ⟨(wrap64 (x5_1 + 1)), (by first | rfl | (simp; done) | (simp [*]; done)), H', ⟨by have := HK1.out; omega⟩, ⟨by repeat (first | (with_reducible first | exact HB.out | apply below_alloc | apply pw_below_drewN | apply below_drew1) | exact HB.out)⟩⟩
              · replace c8 := Bool.eq_false_iff.mpr c8
                subst c8
                have H1 : (some false) = some r := by rw [if_neg (show ¬ (false = true) by decide)] at H; exact H
                clear H
                have H := H1
                clear H1
                obtain rfl := Option.some.inj H
                try go_wp2
                have n0_ := Aside0.mk (below_drew1 HB.out)
                clear HB
                have HB := n0_
                clear n0_
                have p251 : 0 ≤ (x5_1 : Int) := of_decide_eq_true (by first | (with_reducible assumption) | assumption)
                have q251 : x5_1 < (l0.length : Int) := of_decide_eq_true (by first | (with_reducible assumption) | assumption)
                obtain ⟨ad251, A251_7, c251_7, e251, hx251_0, hx251_1, hx251_2, hx251_3, hx251_4, hx251_5, hx251_6, hx251_7, hl251_7, hi251_7⟩ := at_T24 HR0.out x5_1 p251 q251
                have hw251_7 := hx251_7
                have hw251_6 := hx251_6
                have hw251_5 := hx251_5
                have hw251_4 := hx251_4
                have hw251_3 := hx251_3
                have hw251_2 := hx251_2
                have hw251_1 := hx251_1
                have hw251_0 := hx251_0
                cases e251
                replace hx251_0 := (HB.out.cell (World.block_lt_of_cell? w _ hx251_0)).trans hx251_0
                replace hx251_1 := (HB.out.cell (World.block_lt_of_cell? w _ hx251_1)).trans hx251_1
                replace hx251_2 := (HB.out.cell (World.block_lt_of_cell? w _ hx251_2)).trans hx251_2
                replace hx251_3 := (HB.out.cell (World.block_lt_of_cell? w _ hx251_3)).trans hx251_3
                replace hx251_4 := (HB.out.cell (World.block_lt_of_cell? w _ hx251_4)).trans hx251_4
                replace hx251_5 := (HB.out.cell (World.block_lt_of_cell? w _ hx251_5)).trans hx251_5
                replace hx251_6 := (HB.out.cell (World.block_lt_of_cell? w _ hx251_6)).trans hx251_6
                replace hx251_7 := (HB.out.cell (World.block_lt_of_cell? w _ hx251_7)).trans hx251_7
                have HR251_7 := Aside0.mk hi251_7
                have HC251_7 := Aside0.mk hl251_7
                clear hi251_7 hl251_7
                replace p251 := eq_true p251
                replace q251 := eq_true q251
                have p252 : 0 ≤ (x5_1 : Int) := of_decide_eq_true (by first | (with_reducible assumption) | assumption)
                have q252 : x5_1 < (l1.length : Int) := of_decide_eq_true (by first | (with_reducible assumption) | assumption)
                obtain ⟨ad252, A252_7, c252_7, e252, hx252_0, hx252_1, hx252_2, hx252_3, hx252_4, hx252_5, hx252_6, hx252_7, hl252_7, hi252_7⟩ := at_T24 HR1.out x5_1 p252 q252
                have hw252_7 := hx252_7
                have hw252_6 := hx252_6
                have hw252_5 := hx252_5
                have hw252_4 := hx252_4
                have hw252_3 := hx252_3
                have hw252_2 := hx252_2
                have hw252_1 := hx252_1
                have hw252_0 := hx252_0
                cases e252
                replace hx252_0 := (HB.out.cell (World.block_lt_of_cell? w _ hx252_0)).trans hx252_0
                replace hx252_1 := (HB.out.cell (World.block_lt_of_cell? w _ hx252_1)).trans hx252_1
                replace hx252_2 := (HB.out.cell (World.block_lt_of_cell? w _ hx252_2)).trans hx252_2
                replace hx252_3 := (HB.out.cell (World.block_lt_of_cell? w _ hx252_3)).trans hx252_3
                replace hx252_4 := (HB.out.cell (World.block_lt_of_cell? w _ hx252_4)).trans hx252_4
                replace hx252_5 := (HB.out.cell (World.block_lt_of_cell? w _ hx252_5)).trans hx252_5
                replace hx252_6 := (HB.out.cell (World.block_lt_of_cell? w _ hx252_6)).trans hx252_6
                replace hx252_7 := (HB.out.cell (World.block_lt_of_cell? w _ hx252_7)).trans hx252_7
                have HR252_7 := Aside0.mk hi252_7
                have HC252_7 := Aside0.mk hl252_7
                clear hi252_7 hl252_7
                replace p252 := eq_true p252
                replace q252 := eq_true q252
                refine start_ (n := 10) (S := fun w' => w'.cell? (ad251.add ((x5_1).toNat * 8)) = some (.int .i64 ((rd_T24 l0 x5_1).f0)) ∧ w'.cell? ⟨(ad251.add ((x5_1).toNat * 8)).block, (ad251.add ((x5_1).toNat * 8)).off + 1, none⟩ = some (.int .i64 ((rd_T24 l0 x5_1).f1)) ∧ w'.cell? ⟨(ad251.add ((x5_1).toNat * 8)).block, (ad251.add ((x5_1).toNat * 8)).off + 2, none⟩ = some (.int .i64 ((rd_T24 l0 x5_1).f2)) ∧ w'.cell? ⟨(ad251.add ((x5_1).toNat * 8)).block, (ad251.add ((x5_1).toNat * 8)).off + 3, none⟩ = some (.int .i64 ((rd_T24 l0 x5_1).f3)) ∧ w'.cell? ⟨(ad251.add ((x5_1).toNat * 8)).block, (ad251.add ((x5_1).toNat * 8)).off + 4, none⟩ = some (.int .i64 ((rd_T24 l0 x5_1).f4)) ∧ w'.cell? ⟨(ad251.add ((x5_1).toNat * 8)).block, (ad251.add ((x5_1).toNat * 8)).off + 5, none⟩ = some (.int .i64 ((rd_T24 l0 x5_1).f5)) ∧ w'.cell? ⟨(ad251.add ((x5_1).toNat * 8)).block, (ad251.add ((x5_1).toNat * 8)).off + 6, none⟩ = some (.int .i64 ((rd_T24 l0 x5_1).f6)) ∧ w'.cell? ⟨(ad251.add ((x5_1).toNat * 8)).block, (ad251.add ((x5_1).toNat * 8)).off + 7, none⟩ = some (.slice A251_7 ((rd_T24 l0 x5_1).f7).length c251_7) ∧ w'.cell? (ad252.add ((x5_1).toNat * 8)) = some (.int .i64 ((rd_T24 l1 x5_1).f0)) ∧ w'.cell? ⟨(ad252.add ((x5_1).toNat * 8)).block, (ad252.add ((x5_1).toNat * 8)).off + 1, none⟩ = some (.int .i64 ((rd_T24 l1 x5_1).f1)) ∧ w'.cell? ⟨(ad252.add ((x5_1).toNat * 8)).block, (ad252.add ((x5_1).toNat * 8)).off + 2, none⟩ = some (.int .i64 ((rd_T24 l1 x5_1).f2)) ∧ w'.cell? ⟨(ad252.add ((x5_1).toNat * 8)).block, (ad252.add ((x5_1).toNat * 8)).off + 3, none⟩ = some (.int .i64 ((rd_T24 l1 x5_1).f3)) ∧ w'.cell? ⟨(ad252.add ((x5_1).toNat * 8)).block, (ad252.add ((x5_1).toNat * 8)).off + 4, none⟩ = some (.int .i64 ((rd_T24 l1 x5_1).f4)) ∧ w'.cell? ⟨(ad252.add ((x5_1).toNat * 8)).block, (ad252.add ((x5_1).toNat * 8)).off + 5, none⟩ = some (.int .i64 ((rd_T24 l1 x5_1).f5)) ∧ w'.cell? ⟨(ad252.add ((x5_1).toNat * 8)).block, (ad252.add ((x5_1).toNat * 8)).off + 6, none⟩ = some (.int .i64 ((rd_T24 l1 x5_1).f6)) ∧ w'.cell? ⟨(ad252.add ((x5_1).toNat * 8)).block, (ad252.add ((x5_1).toNat * 8)).off + 7, none⟩ = some (.slice A252_7 ((rd_T24 l1 x5_1).f7).length c252_7)) (ds := []) #[false, false, false, false, false, false, false, false, false, false] (by kernel_rfl) rfl rfl ⟨((HB.out.cell (World.block_lt_of_cell? w _ hw251_0)).trans hw251_0), ((HB.out.cell (World.block_lt_of_cell? w _ hw251_1)).trans hw251_1), ((HB.out.cell (World.block_lt_of_cell? w _ hw251_2)).trans hw251_2), ((HB.out.cell (World.block_lt_of_cell? w _ hw251_3)).trans hw251_3), ((HB.out.cell (World.block_lt_of_cell? w _ hw251_4)).trans hw251_4), ((HB.out.cell (World.block_lt_of_cell? w _ hw251_5)).trans hw251_5), ((HB.out.cell (World.block_lt_of_cell? w _ hw251_6)).trans hw251_6), ((HB.out.cell (World.block_lt_of_cell? w _ hw251_7)).trans hw251_7), ((HB.out.cell (World.block_lt_of_cell? w _ hw252_0)).trans hw252_0), ((HB.out.cell (World.block_lt_of_cell? w _ hw252_1)).trans hw252_1), ((HB.out.cell (World.block_lt_of_cell? w _ hw252_2)).trans hw252_2), ((HB.out.cell (World.block_lt_of_cell? w _ hw252_3)).trans hw252_3), ((HB.out.cell (World.block_lt_of_cell? w _ hw252_4)).trans hw252_4), ((HB.out.cell (World.block_lt_of_cell? w _ hw252_5)).trans hw252_5), ((HB.out.cell (World.block_lt_of_cell? w _ hw252_6)).trans hw252_6), ((HB.out.cell (World.block_lt_of_cell? w _ hw252_7)).trans hw252_7)⟩ (fun hHeld => ?_); refine with_tabW squintlaw18_sameEvents.tab6 squintlaw18_sameEvents.bits6 (fun HT_ HW_ => ?_)
                generalize wr.drew = w11 at HB HR251_7 HR252_7 hx251_0 hx251_1 hx251_2 hx251_3 hx251_4 hx251_5 hx251_6 hx251_7 hx252_0 hx252_1 hx252_2 hx252_3 hx252_4 hx252_5 hx252_6 hx252_7 hHeld ⊢
                refine pure_ (i := 0) (N := some 17) (v := ?_) (a' := ?_) #[true, false, false, false, false, false, false, false, false, false] rfl rfl (any_of HT_.out (by kernel_rfl)) (fun _ _ _ h => h) (Or.inl ⟨by rfl, ?_⟩) ?_ ?_
                rotate_left
                · intro w'
                  go_simp
                  with_reducible rfl
                rotate_left
                · simp only [Act.put, List.setIfInBounds_toArray, List.set_cons_zero, List.set_cons_succ, i64_w, i32_w]
                  rfl
                refine pure_ (i := 1) (N := some 18) (v := ?_) (a' := ?_) #[true, true, false, false, false, false, false, false, false, false] rfl rfl (any_of HT_.out (by kernel_rfl)) (fun _ _ _ h => h) (Or.inl ⟨by rfl, ?_⟩) ?_ ?_
                rotate_left
                · intro w'
                  go_simp
                  with_reducible rfl
                rotate_left
                · simp only [Act.put, List.setIfInBounds_toArray, List.set_cons_zero, List.set_cons_succ, i64_w, i32_w]
                  rfl
                refine pure_ (i := 2) (N := some 19) (v := ?_) (a' := ?_) #[true, true, true, false, false, false, false, false, false, false] rfl rfl (any_of HT_.out (by kernel_rfl)) (fun _ _ _ h => h) (Or.inl ⟨by rfl, ?_⟩) ?_ ?_
                rotate_left
                · intro w'
                  go_simp
                  with_reducible rfl
                rotate_left
                · simp only [Act.put, List.setIfInBounds_toArray, List.set_cons_zero, List.set_cons_succ, i64_w, i32_w]
                  rfl
                refine pure_ (i := 4) (N := some 21) (v := ?_) (a' := ?_) #[true, true, true, false, true, false, false, false, false, false] rfl rfl (any_of HT_.out (by kernel_rfl)) (fun _ _ _ h => h) (Or.inl ⟨by rfl, ?_⟩) ?_ ?_
                rotate_left
                · intro w'
                  go_simp
                  with_reducible rfl
                rotate_left
                · simp only [Act.put, List.setIfInBounds_toArray, List.set_cons_zero, List.set_cons_succ, i64_w, i32_w]
                  rfl
                refine pure_ (i := 5) (N := some 22) (v := ?_) (a' := ?_) #[true, true, true, false, true, true, false, false, false, false] rfl rfl (any_of HT_.out (by kernel_rfl)) (fun _ _ _ h => h) (Or.inl ⟨by rfl, ?_⟩) ?_ ?_
                rotate_left
                · intro w'
                  go_simp
                  with_reducible rfl
                rotate_left
                · simp only [Act.put, List.setIfInBounds_toArray, List.set_cons_zero, List.set_cons_succ, i64_w, i32_w]
                  rfl
                refine pure_ (i := 6) (N := some 23) (v := ?_) (a' := ?_) #[true, true, true, false, true, true, true, false, false, false] rfl rfl (any_of HT_.out (by kernel_rfl)) (fun _ _ _ h => h) (Or.inl ⟨by rfl, ?_⟩) ?_ ?_
                rotate_left
                · intro w'
                  go_simp
                  with_reducible rfl
                rotate_left
                · simp only [Act.put, List.setIfInBounds_toArray, List.set_cons_zero, List.set_cons_succ, i64_w, i32_w]
                  rfl
                refine take_ (i := 3) (N := some 20) (v := ?_) (a' := ?_) #[true, true, true, true, true, true, true, false, false, false] rfl rfl (take_ofW HT_.out HW_.out (by kernel_rfl)) (fun _ _ _ h => h) (Or.inl ⟨by rfl, ?_⟩) hHeld ?_ ?_
                rotate_left
                · rintro w' ⟨s0, s1, s2, s3, s4, s5, s6, s7, s8, s9, s10, s11, s12, s13, s14, s15⟩
                  go_simp
                  with_reducible rfl
                rotate_left
                · simp only [Act.put, List.setIfInBounds_toArray, List.set_cons_zero, List.set_cons_succ, i64_w, i32_w]
                  rfl
                refine take_ (i := 7) (N := some 24) (v := ?_) (a' := ?_) #[true, true, true, true, true, true, true, true, false, false] rfl rfl (take_ofW HT_.out HW_.out (by kernel_rfl)) (fun _ _ _ h => h) (Or.inl ⟨by rfl, ?_⟩) hHeld ?_ ?_
                rotate_left
                · rintro w' ⟨s0, s1, s2, s3, s4, s5, s6, s7, s8, s9, s10, s11, s12, s13, s14, s15⟩
                  go_simp
                  with_reducible rfl
                rotate_left
                · simp only [Act.put, List.setIfInBounds_toArray, List.set_cons_zero, List.set_cons_succ, i64_w, i32_w]
                  rfl
                refine one_ (i := 8) (N := some 25) #[true, true, true, true, true, true, true, true, true, false] rfl rfl (one_of HT_.out (by kernel_rfl)) (by decide) (fun K hK => ?_)
                refine goes_ Tryd.func39 (by kernel_rfl) rfl #[.agg #[.int .i64 ((rd_T24 l0 x5_1).f0), .int .i64 ((rd_T24 l0 x5_1).f1), .int .i64 ((rd_T24 l0 x5_1).f2), .int .i64 ((rd_T24 l0 x5_1).f3), .int .i64 ((rd_T24 l0 x5_1).f4), .int .i64 ((rd_T24 l0 x5_1).f5), .int .i64 ((rd_T24 l0 x5_1).f6), .slice A251_7 ((rd_T24 l0 x5_1).f7).length c251_7], .agg #[.int .i64 ((rd_T24 l1 x5_1).f0), .int .i64 ((rd_T24 l1 x5_1).f1), .int .i64 ((rd_T24 l1 x5_1).f2), .int .i64 ((rd_T24 l1 x5_1).f3), .int .i64 ((rd_T24 l1 x5_1).f4), .int .i64 ((rd_T24 l1 x5_1).f5), .int .i64 ((rd_T24 l1 x5_1).f6), .slice A252_7 ((rd_T24 l1 x5_1).f7).length c252_7]] (by rfl) rfl rfl (by (try simp only [List.map_toArray, List.map_cons, List.map_nil]); first | done | rfl | (simp only [List.length_drop, List.length_take]; rfl)) ?_
                with_reducible refine (squintlaw18_sameEvent.calls k1 ((rd_T24 l0 x5_1).f0) ((rd_T24 l0 x5_1).f1) ((rd_T24 l0 x5_1).f2) ((rd_T24 l0 x5_1).f3) ((rd_T24 l0 x5_1).f4) ((rd_T24 l0 x5_1).f5) ((rd_T24 l0 x5_1).f6) _ _ ((rd_T24 l0 x5_1).f7) ((rd_T24 l1 x5_1).f0) ((rd_T24 l1 x5_1).f1) ((rd_T24 l1 x5_1).f2) ((rd_T24 l1 x5_1).f3) ((rd_T24 l1 x5_1).f4) ((rd_T24 l1 x5_1).f5) ((rd_T24 l1 x5_1).f6) _ _ ((rd_T24 l1 x5_1).f7) false _ ?side1 ?side2 ?side3 ?side4 A7.out).mono ?_
                (case side1 => repeat (first | exact (Kd.C_below HR251_7.out HB.out) | (with_reducible refine Kd.C_alloc ?_ _) | (with_reducible refine Kd.C_drewN ?_ _) | (with_reducible refine Kd.C_drew ?_)))
                (case side2 => exact HC251_7.out)
                (case side3 => repeat (first | exact (Kd.C_below HR252_7.out HB.out) | (with_reducible refine Kd.C_alloc ?_ _) | (with_reducible refine Kd.C_drewN ?_ _) | (with_reducible refine Kd.C_drew ?_)))
                (case side4 => exact HC252_7.out)
                rintro e w12 ⟨rfl, hb⟩
                refine ⟨_, rfl, ?_⟩
                have n0_ := Aside0.mk (below_step (by repeat (first | (with_reducible first | exact HB.out | apply below_alloc | apply pw_below_drewN | apply below_drew1) | exact HB.out)) hb)
                clear HB
                have HB := n0_
                clear n0_
                (try clear hb)
                (try clear hb2)
                (try clear hk)
                (try clear hi)
                refine hK.out _ _ ⟨((HB.out.cell (World.block_lt_of_cell? w _ hw251_0)).trans hw251_0), ((HB.out.cell (World.block_lt_of_cell? w _ hw251_1)).trans hw251_1), ((HB.out.cell (World.block_lt_of_cell? w _ hw251_2)).trans hw251_2), ((HB.out.cell (World.block_lt_of_cell? w _ hw251_3)).trans hw251_3), ((HB.out.cell (World.block_lt_of_cell? w _ hw251_4)).trans hw251_4), ((HB.out.cell (World.block_lt_of_cell? w _ hw251_5)).trans hw251_5), ((HB.out.cell (World.block_lt_of_cell? w _ hw251_6)).trans hw251_6), ((HB.out.cell (World.block_lt_of_cell? w _ hw251_7)).trans hw251_7), ((HB.out.cell (World.block_lt_of_cell? w _ hw252_0)).trans hw252_0), ((HB.out.cell (World.block_lt_of_cell? w _ hw252_1)).trans hw252_1), ((HB.out.cell (World.block_lt_of_cell? w _ hw252_2)).trans hw252_2), ((HB.out.cell (World.block_lt_of_cell? w _ hw252_3)).trans hw252_3), ((HB.out.cell (World.block_lt_of_cell? w _ hw252_4)).trans hw252_4), ((HB.out.cell (World.block_lt_of_cell? w _ hw252_5)).trans hw252_5), ((HB.out.cell (World.block_lt_of_cell? w _ hw252_6)).trans hw252_6), ((HB.out.cell (World.block_lt_of_cell? w _ hw252_7)).trans hw252_7)⟩ (fun hHeld => ?_)
                clear hK K
                refine norm_ (a' := ?_) ?_ ?_
                rotate_left
                · show Act.put _ (some 25) _ = _
                  simp only [Act.put, List.setIfInBounds_toArray, List.set_cons_zero, List.set_cons_succ, i64_w, i32_w]
                  rfl
                refine pure_ (i := 9) (N := some 26) (v := ?_) (a' := ?_) #[true, true, true, true, true, true, true, true, true, true] rfl rfl (any_of HT_.out (by kernel_rfl)) (fun _ _ _ h => h) (Or.inl ⟨by rfl, ?_⟩) ?_ ?_
                rotate_left
                · intro w'
                  go_simp
                  with_reducible rfl
                rotate_left
                · simp only [Act.put, List.setIfInBounds_toArray, List.set_cons_zero, List.set_cons_succ, i64_w, i32_w]
                  rfl
                refine done_ (done_of HT_.out (by kernel_rfl)) ?_
                try go_wp2
                go_ret
                exact ⟨by first | rfl | (simp [errW_none, errW_some] <;> rfl) | (simp [*, errW_none, errW_some] <;> rfl), by repeat (first | (with_reducible first | exact HB.out | apply below_alloc | apply pw_below_drewN | apply below_drew1) | exact HB.out)⟩
            · rw [if_neg c6] at H
              exact absurd H (by simp)
          · rw [if_neg c5] at H
            exact absurd H (by simp)
        · rw [if_neg c4] at H
          have c4b0 : decide (x5_1 < (l0.length : Int)) = false := decide_eq_false c4
          clear c4
          obtain rfl := Option.some.inj H
          go_wp2
          go_ret
          exact ⟨by first | rfl | (simp [errW_none, errW_some] <;> rfl) | (simp [*, errW_none, errW_some] <;> rfl), by repeat (first | (with_reducible first | exact HB.out | apply below_alloc | apply pw_below_drewN | apply below_drew1) | exact HB.out)⟩
  · rw [if_neg c3] at H
    have c3b0 : ((l0.length : Int) == (l1.length : Int)) = false := beq_eq_false_iff_ne.mpr c3
    have c3b1 : ((l0.length : Int) != (l1.length : Int)) = true := bne_iff_ne.mpr c3
    have c3b2 : (l0.length == l1.length) = false := by first | simpa using c3 | (simp at c3 ⊢; omega)
    obtain rfl := Option.some.inj H
    go_enter Tryd.func20, Tryd.ntmps20
    go_wp2
    go_ret
    exact ⟨by first | rfl | (simp [errW_none, errW_some] <;> rfl) | (simp [*, errW_none, errW_some] <;> rfl), by repeat (first | (with_reducible first | exact HB.out | apply below_alloc | apply pw_below_drewN | apply below_drew1) | exact HB.out)⟩
end Go.Proofs.YtiapfhlipoomaaaDoor.Print
end
section
namespace Go.Proofs.YtiapfhlipoomaaaDoor.Given
open Go.RowKit Go.Proofs.YtiapfhlipoomaaaDoorW.PrintWords Go.Proofs.YtiapfhlipoomaaaDoorW.PrintLast Go.Proofs.YtiapfhlipoomaaaDoorW.PrintMore Go.Proofs.YtiapfhlipoomaaaDoor.Print
set_option linter.unusedVariables false
set_option linter.unusedSimpArgs false
theorem sames_loop (l : List Int) (hl : l.length ≤ 4611686018427387904) : ∀ (n : Nat) (i : Int), 0 ≤ i → (l.length : Int) - i ≤ n → squintlaw18_sameInts.l0 (n + 1) l l i = some true
  | 0, i, h0, h => by
    unfold squintlaw18_sameInts.l0
    rw [if_neg (by omega)]
  | n + 1, i, h0, h => by
    unfold squintlaw18_sameInts.l0
    by_cases hi : i < (l.length : Int)
    · rw [if_pos hi, if_pos h0, if_pos hi, if_pos rfl, show wrap64 (i + 1) = i + 1 by simp only [wrap64]; omega]
      exact sames_loop l hl n _ (by omega) (by omega)
    · rw [if_neg hi]
theorem sames_self (l : List Int) (hl : l.length ≤ 4611686018427387904) (k : Nat) (hk : l.length < k) : squintlaw18_sameInts.f k l l = some true := by
  obtain ⟨n, rfl⟩ : ∃ n, k = n + 1 := ⟨k - 1, by omega⟩
  unfold squintlaw18_sameInts.f
  rw [if_pos rfl]
  exact sames_loop l hl n 0 (by omega) (by omega)
theorem samee_loop (l : List S24) (M : Nat) (hl : l.length ≤ 4611686018427387904) (hM : ∀ x ∈ l, x.f7.length < M ∧ x.f7.length ≤ 4611686018427387904) : ∀ (n : Nat) (i : Int), 0 ≤ i → (l.length : Int) - i ≤ n → squintlaw18_sameEvents.l0 (n + 1 + M) l l i = some true
  | 0, i, h0, h => by
    rw [show 0 + 1 + M = M + 1 by omega]
    unfold squintlaw18_sameEvents.l0
    rw [if_neg (by omega)]
  | n + 1, i, h0, h => by
    rw [show n + 1 + 1 + M = (n + 1 + M) + 1 by omega]
    unfold squintlaw18_sameEvents.l0
    by_cases hi : i < (l.length : Int)
    · have hm : rd_T24 l i ∈ l := by
        have hlt : i.toNat < l.length := by omega
        have : rd_T24 l i = l[i.toNat] := by simp [rd_T24, hlt]
        rw [this]
        exact List.getElem_mem hlt
      obtain ⟨h1, h2⟩ := hM _ hm
      rw [if_pos hi, if_pos h0, if_pos hi]
      unfold squintlaw18_sameEvent.f
      rw [if_pos rfl, if_pos rfl, if_pos rfl, if_pos rfl, if_pos rfl, if_pos rfl, if_pos rfl, sames_self _ h2 _ (by omega)]
      simp only [Option.bind_some, if_true]
      rw [show wrap64 (i + 1) = i + 1 by simp only [wrap64]; omega]
      exact samee_loop l M hl hM n _ (by omega) (by omega)
    · rw [if_neg hi]
theorem samee_self (l : List S24) (hl : l.length ≤ 4611686018427387904) (hM : ∀ x ∈ l, x.f7.length ≤ 4611686018427387904) : ∃ k, squintlaw18_sameEvents.f k l l = some true := by
  refine ⟨l.length + 1 + 4611686018427387905, ?_⟩
  unfold squintlaw18_sameEvents.f
  rw [if_pos rfl]
  exact samee_loop l _ hl (fun x hx => ⟨by have := hM x hx; omega, hM x hx⟩) l.length 0 (by omega) (by omega)
end Go.Proofs.YtiapfhlipoomaaaDoor.Given
end
section
namespace Go.Proofs.YtiapfhlipoomaaaDoor.Given
open Go.RowKit Go.Proofs.YtiapfhlipoomaaaDoorW.PrintWords Go.Proofs.YtiapfhlipoomaaaDoorW.PrintLast Go.Proofs.YtiapfhlipoomaaaDoorW.PrintMore Go.Proofs.YtiapfhlipoomaaaDoor.Print
set_option linter.unusedVariables false
set_option linter.unusedSimpArgs false
theorem num_str (d : Nat) (h : d < 10) : strOfNums [(IntKind.u64.wrap (48 + (d : Int))) % 256] = ⟨#[UInt8.ofNat (48 + d)]⟩ := by
  have key : ∀ d : Fin 10, strOfNums [(IntKind.u64.wrap (48 + (d.val : Int))) % 256] = ⟨#[UInt8.ofNat (48 + d.val)]⟩ := by decide +kernel
  exact key ⟨d, h⟩
def preD (u : Nat) : List UInt8 := if u < 10 then [] else Lib.decDigits (u / 10)
theorem dec_pre (u : Nat) : Lib.decDigits u = preD u ++ [UInt8.ofNat (48 + u % 10)] := by
  rw [Lib.decDigits]
  unfold preD
  split
  · rw [List.nil_append, Nat.mod_eq_of_lt (by assumption)]
  · rfl
theorem u64_in (n : Int) (h : 0 ≤ n ∧ n < 18446744073709551616) : IntKind.u64.wrap n = n := by
  simp [IntKind.wrap, IntKind.signed, IntKind.bits]
  omega
theorem digit_of (u : Nat) (h : u < 18446744073709551616) : strOfNums [(IntKind.u64.wrap (48 + (Int.tmod (u : Int) 10))) % 256] = ⟨#[UInt8.ofNat (48 + u % 10)]⟩ := by
  rw [Int.tmod_eq_emod_of_nonneg (by omega), show ((u : Int) % 10) = ((u % 10 : Nat) : Int) by omega]
  exact num_str _ (by omega)
theorem plain_loop : ∀ (k u : Nat) (s : ByteArray), u < 10 ^ k → u < 18446744073709551616 → s.size + k ≤ 1000 → squintref18_plain.l0 (k + 1) (u : Int) s = some (⟨(preD u).toArray⟩ ++ s)
  | k, u, s, hu, hb, hs => by
    unfold squintref18_plain.l0
    by_cases h : u < 10
    · rw [if_neg (by omega)]
      refine congrArg some (bytes_ext ?_)
      rw [app_list]
      simp [preD, h]
    · match k, hu, hs with
      | 0, hu, _ => simp at hu; omega
      | k + 1, hu, hs =>
        have e1 : IntKind.u64.wrap (Int.tdiv (u : Int) 10) = ((u / 10 : Nat) : Int) := by
          rw [Int.tdiv_eq_ediv_of_nonneg (by omega), u64_in _ (by omega)]
          omega
        rw [if_pos (by omega), e1]
        simp only [Option.bind_some]
        rw [digit_of _ (by omega), if_pos (by have : (ByteArray.mk #[UInt8.ofNat (48 + u / 10 % 10)]).size = 1 := rfl; omega)]
        rw [plain_loop k (u / 10) _ (by rw [Nat.pow_succ] at hu; omega) (by omega) (by rw [size_append]; have : (ByteArray.mk #[UInt8.ofNat (48 + u / 10 % 10)]).size = 1 := rfl; omega)]
        refine congrArg some (bytes_ext ?_)
        rw [app_list, app_list, app_list]
        simp only [preD, if_neg h]
        rw [dec_pre (u / 10)]
        simp [preD]
theorem plain_says (u : Nat) (h : u < 18446744073709551616) : squintref18_plain.f 21 (u : Int) = some ⟨(Lib.decDigits u).toArray⟩ := by
  unfold squintref18_plain.f
  rw [digit_of _ h, plain_loop 20 u _ (by omega) h (by show 1 + 20 ≤ 1000; decide)]
  refine congrArg some (bytes_ext ?_)
  rw [app_list, dec_pre]
theorem digits_says (n : Int) (h : Rng n) : squintref18_digits.f 21 n = some (itoaB n) := by
  unfold Rng at h
  unfold squintref18_digits.f
  by_cases hn : n < 0
  · have e : IntKind.u64.wrap ((IntKind.u64.wrap (wrap64 (-(wrap64 (n + 1))))) + 1) = ((n.natAbs : Nat) : Int) := by
      rw [show wrap64 (n + 1) = n + 1 by simp only [wrap64]; omega, show wrap64 (-(n + 1)) = -(n + 1) by simp only [wrap64]; omega, u64_in (-(n + 1)) (by omega), u64_in _ (by omega)]
      omega
    rw [if_pos hn, e, plain_says _ (by omega)]
    simp only [Option.bind_some]
    have hl := dec_len 19 n.natAbs (by omega)
    have hsz : (ByteArray.mk (Lib.decDigits n.natAbs).toArray).size = (Lib.decDigits n.natAbs).length := by
      show (Lib.decDigits n.natAbs).toArray.size = _
      rw [List.size_toArray]
    rw [if_pos (by rw [hsz]; omega)]
    refine congrArg some (bytes_ext ?_)
    rw [app_list]
    unfold itoaB Lib.itoa
    rw [if_pos hn]
    simp
  · have e : IntKind.u64.wrap n = ((n.toNat : Nat) : Int) := by
      rw [u64_in _ (by omega)]
      omega
    rw [if_neg hn, e, plain_says _ (by omega)]
    simp only [Option.bind_some]
    refine congrArg some (bytes_ext ?_)
    unfold itoaB Lib.itoa
    rw [if_neg hn]
end Go.Proofs.YtiapfhlipoomaaaDoor.Given
end
section
namespace Go.Proofs.YtiapfhlipoomaaaDoor.Print
open Go.RowKit
open Go.RowKit Go.Proofs.YtiapfhlipoomaaaDoorW.PrintWords Go.Proofs.YtiapfhlipoomaaaDoorW.PrintLast Go.Proofs.YtiapfhlipoomaaaDoorW.PrintMore
attribute [local go_sem] max2_int min2_int max_two min_two max_three min_three max_four min_four
set_option linter.unusedVariables false
set_option linter.unusedSimpArgs false
def squintref18_split.l0 : Nat → ByteArray → List ByteArray → Int → Int → Option (List ByteArray)
  | 0, _, _, _, _ => none
  | k + 1, x0, x3, x4, x5 => if x5 ≤ (x0.size : Int) then (if x5 = (x0.size : Int) then (if 0 ≤ x4 then (if x4 ≤ x5 then (if x3.length < 8796093022208 then (squintref18_split.l0 k x0 (x3 ++ [x0.extract (x4 : Int).toNat (x5 : Int).toNat]) (wrap64 (x5 + 1)) (wrap64 (x5 + 1))) else (none)) else (none)) else (none)) else (if 0 ≤ x5 then (if x5 < (x0.size : Int) then (if (bt x0 x5) = 32 then (if 0 ≤ x4 then (if x4 ≤ x5 then (if x3.length < 8796093022208 then (squintref18_split.l0 k x0 (x3 ++ [x0.extract (x4 : Int).toNat (x5 : Int).toNat]) (wrap64 (x5 + 1)) (wrap64 (x5 + 1))) else (none)) else (none)) else (none)) else (squintref18_split.l0 k x0 x3 x4 (wrap64 (x5 + 1)))) else (none)) else (none))) else (some x3)
def squintref18_split.f (k : Nat) (a0 : ByteArray) : Option (List ByteArray) := squintref18_split.l0 k a0 (([] : List ByteArray)) 0 0
set_option maxHeartbeats 8000000 in
set_option maxRecDepth 100000 in
theorem squintref18_split.calls (k : Nat) (a0 : ByteArray) (r : List ByteArray) (w : World) (h : squintref18_split.f k a0 = some r) :
    Calls Tryd.prog 50 #[.string a0] w fun e w' => ∃ v0_ : Value, e = .returned (v0_) ∧ Kd.R Kd.string 9 w' w.heap.size (fun _ => True) v0_ r ∧ Below w.heap.size w w' := by
  have HB := Aside0.mk (Below.refl w.heap.size w)
  have H : (squintref18_split.l0 k a0 (([] : List ByteArray)) 0 0) = some r := h
  clear h
  obtain ⟨y273, hy273⟩ : ∃ y_ : List ByteArray, y_ = (([] : List ByteArray)) := ⟨_, rfl⟩
  replace H : (squintref18_split.l0 k a0 y273 0 0) = some r := by first | (rw [hy273]; with_reducible exact H) | (have H2_ := (Option.bind_some _ _).symm.trans H; rw [hy273]; with_reducible exact H2_) | (have H2_ := (Option.bind_some _ _).symm.trans H; with_reducible exact H2_) | with_reducible exact H | (rw [hy273]; exact H) | exact H
  have Ny273 := Aside0.mk hy273
  clear hy273
  have H' := Aside0.mk H
  clear H
  go_enter Tryd.func50, Tryd.ntmps50
  go_wp2_with (first | ((with_reducible refine gate_dst (N := 6) rfl ?_); refine Kd.R_lit Kd.string _ 9 ?hg (N := 6) ?hd (xs := ([] : List ByteArray)) (inner := []) (ok := fun _ => True) (okp := fun _ => True) ?hr ?hp (fun _ hk => hk) trivial (Below.refl _ _) (Nat.le_refl _) (by simp) ?_; (case hd => rfl); (case hg => rfl); (case hr => first | (go_simp; done) | (go_simp; rfl)); (case hp => exact (Reps.none _ _)); intro v274 w2 ho3 hb hg_ hnew_; clear hg_ hnew_; (first | rw [← Ny273.out] at ho3 | (simp only [Int.reduceToNat] at ho3; rw [← Ny273.out] at ho3)); have n0_ := Aside0.mk (Kd.R_lower ho3 (below_size (by repeat (first | (with_reducible first | exact HB.out | apply below_alloc | apply pw_below_drewN | apply below_drew1) | exact HB.out)))); have n1_ := Aside0.mk (below_step (by repeat (first | (with_reducible first | exact HB.out | apply below_alloc | apply pw_below_drewN | apply below_drew1) | exact HB.out)) hb); clear HB; have HO275 := n0_; have HB := n1_; clear n0_ n1_; clear hb ho3))
  go_loopg [3, 4, 5] k (fun kq v3 v4 v5 w' => ∃ (x3_1 : List ByteArray) (x4_1 : Int) (x5_1 : Int), v4 = .int .i64 x4_1 ∧ v5 = .int .i64 x5_1 ∧ Aside0 (squintref18_split.l0 kq a0 x3_1 x4_1 x5_1 = some r) ∧ Aside0 (kq ≤ k) ∧ Aside0 (Kd.R Kd.string 9 w' w.heap.size (fun _ => True) v3 x3_1) ∧ Aside0 (Below w.heap.size w w'))
  case atStart => exact ⟨(y273), (0), (0), (by first | rfl | (simp; done) | (simp [*]; done)), (by first | rfl | (simp; done) | (simp [*]; done)), H', ⟨Nat.le_refl _⟩, ⟨by (with_reducible repeat (first | apply Kd.R_alloc | apply Kd.R_drewN | apply Kd.R_drew)); exact HO275.out⟩, ⟨by repeat (first | (with_reducible first | exact HB.out | apply below_alloc | apply pw_below_drewN | apply below_drew1) | exact HB.out)⟩⟩
  case round =>
    clear H'
    try clear p2
    obtain ⟨x3_1, x4_1, x5_1, rfl, rfl, HA, HK1, HO_3, HB⟩ := hrel
    cases gk with
    | zero => exact absurd HA.out (by simp [squintref18_split.l0])
    | succ k1 =>
      have H := HA.out
      clear HA
      simp only [squintref18_split.l0] at H
      by_cases c4 : x5_1 ≤ (a0.size : Int)
      · rw [if_pos c4] at H
        have c4b0 : decide (x5_1 ≤ (a0.size : Int)) = true := decide_eq_true c4
        clear c4
        by_cases c5 : x5_1 = (a0.size : Int)
        · rw [if_pos c5] at H
          have c5b0 : (x5_1 == (a0.size : Int)) = true := beq_iff_eq.mpr c5
          have c5b1 : (x5_1 != (a0.size : Int)) = false := bne_eq_false_iff_eq.mpr c5
          clear c5
          by_cases c6 : 0 ≤ x4_1
          · rw [if_pos c6] at H
            have c6b0 := eq_true c6
            have c6b1 : decide (0 ≤ x4_1) = true := decide_eq_true c6
            clear c6
            by_cases c7 : x4_1 ≤ x5_1
            · rw [if_pos c7] at H
              have c7b0 := eq_true c7
              have c7b1 : decide (x4_1 ≤ x5_1) = true := decide_eq_true c7
              clear c7
              have c8b0 := eq_true (of_decide_eq_true (by first | (with_reducible assumption) | assumption) : x5_1 ≤ (a0.size : Int))
              by_cases c9 : x3_1.length < 8796093022208
              · rw [if_pos c9] at H
                have LMc9 := Aside0.mk c9
                clear c9
                obtain ⟨y276, hy276⟩ : ∃ y_ : List ByteArray, y_ = (x3_1 ++ [a0.extract (x4_1 : Int).toNat (x5_1 : Int).toNat]) := ⟨_, rfl⟩
                replace H : (squintref18_split.l0 k1 a0 y276 (wrap64 (x5_1 + 1)) (wrap64 (x5_1 + 1))) = some r := by first | (rw [hy276]; with_reducible exact H) | (have H2_ := (Option.bind_some _ _).symm.trans H; rw [hy276]; with_reducible exact H2_) | (have H2_ := (Option.bind_some _ _).symm.trans H; with_reducible exact H2_) | with_reducible exact H | (rw [hy276]; exact H) | exact H
                have Ny276 := Aside0.mk hy276
                clear hy276
                have H' := Aside0.mk H
                clear H
                go_wp2_with (first | ((with_reducible refine gate_builtin (b := .append) (xs := #[.tmp 23, .tmp 28]) rfl ?_); at_builtin; refine Kd.R_append Kd.string (w0 := w) w.heap.size rfl (.tmp 23) (.tmp 28) 46 9 (.string ⟨#[]⟩) 16 rfl Tryd.underlying46 info9 rfl (by decide) (by omega) u3 x3_1 (a0.extract (x4_1 : Int).toNat (x5_1 : Int).toNat) [.string (a0.extract (x4_1 : Int).toNat (x5_1 : Int).toNat)] (fun _ => True) (fun _ => False) rfl rfl ?aP (fun _ hk => hk.elim) ?aF ?aO ?aB ?aS ?aL ?_; (case aP => exact rfl); (case aB => exact (by repeat (first | (with_reducible first | exact HB.out | apply below_alloc | apply pw_below_drewN | apply below_drew1) | exact HB.out))); (case aF => exact (fun _ _ => trivial)); (case aO => exact (by (with_reducible repeat (first | apply Kd.R_alloc | apply Kd.R_drewN | apply Kd.R_drew)); exact HO_3.out)); (case aS => exact (below_size (by repeat (first | (with_reducible first | exact HB.out | apply below_alloc | apply pw_below_drewN | apply below_drew1) | exact HB.out)))); (case aL => have := LMc9.out; omega); intro v277 w10 ho hb hg hat; rw [← Ny276.out] at ho; have n0_ := Aside0.mk (hb); have n1_ := Aside0.mk (ho); clear HB; clear HO_3; have HB := n0_; have HO278 := n1_; clear n0_ n1_; clear ho hb hg hat))
                go_roundg k1
                case measure => have := HK1.out; omega
                case rel => exact ⟨(y276), (wrap64 (x5_1 + 1)), (wrap64 (x5_1 + 1)), (by first | rfl | (simp; done) | (simp [*]; done)), (by first | rfl | (simp; done) | (simp [*]; done)), H', ⟨by have := HK1.out; omega⟩, ⟨by (with_reducible repeat (first | apply Kd.R_alloc | apply Kd.R_drewN | apply Kd.R_drew)); exact HO278.out⟩, ⟨by repeat (first | (with_reducible first | exact HB.out | apply below_alloc | apply pw_below_drewN | apply below_drew1) | exact HB.out)⟩⟩
              · rw [if_neg c9] at H
                exact absurd H (by simp)
            · rw [if_neg c7] at H
              exact absurd H (by simp)
          · rw [if_neg c6] at H
            exact absurd H (by simp)
        · rw [if_neg c5] at H
          have c5b0 : (x5_1 == (a0.size : Int)) = false := beq_eq_false_iff_ne.mpr c5
          have c5b1 : (x5_1 != (a0.size : Int)) = true := bne_iff_ne.mpr c5
          by_cases c11 : 0 ≤ x5_1
          · rw [if_pos c11] at H
            have c11b0 : decide (0 ≤ x5_1) = true := decide_eq_true c11
            clear c11
            by_cases c12 : x5_1 < (a0.size : Int)
            · rw [if_pos c12] at H
              have c12b0 : decide (x5_1 < (a0.size : Int)) = true := decide_eq_true c12
              clear c12
              by_cases c14 : (bt a0 x5_1) = 32
              · rw [if_pos c14] at H
                have c14b0 : ((bt a0 x5_1) == 32) = true := beq_iff_eq.mpr c14
                have c14b1 : ((bt a0 x5_1) != 32) = false := bne_eq_false_iff_eq.mpr c14
                clear c14
                by_cases c15 : 0 ≤ x4_1
                · rw [if_pos c15] at H
                  have c15b0 := eq_true c15
                  have c15b1 : decide (0 ≤ x4_1) = true := decide_eq_true c15
                  clear c15
                  by_cases c16 : x4_1 ≤ x5_1
                  · rw [if_pos c16] at H
                    have c16b0 := eq_true c16
                    have c16b1 : decide (x4_1 ≤ x5_1) = true := decide_eq_true c16
                    clear c16
                    have c17b0 := eq_true (of_decide_eq_true (by first | (with_reducible assumption) | assumption) : x5_1 ≤ (a0.size : Int))
                    by_cases c18 : x3_1.length < 8796093022208
                    · rw [if_pos c18] at H
                      have LMc18 := Aside0.mk c18
                      clear c18
                      obtain ⟨y279, hy279⟩ : ∃ y_ : List ByteArray, y_ = (x3_1 ++ [a0.extract (x4_1 : Int).toNat (x5_1 : Int).toNat]) := ⟨_, rfl⟩
                      replace H : (squintref18_split.l0 k1 a0 y279 (wrap64 (x5_1 + 1)) (wrap64 (x5_1 + 1))) = some r := by first | (rw [hy279]; with_reducible exact H) | (have H2_ := (Option.bind_some _ _).symm.trans H; rw [hy279]; with_reducible exact H2_) | (have H2_ := (Option.bind_some _ _).symm.trans H; with_reducible exact H2_) | with_reducible exact H | (rw [hy279]; exact H) | exact H
                      have Ny279 := Aside0.mk hy279
                      clear hy279
                      have H' := Aside0.mk H
                      clear H
                      have p13 : 0 ≤ (x5_1 : Int) := of_decide_eq_true (by first | (with_reducible assumption) | assumption)
                      have q13 : x5_1 < (a0.size : Int) := of_decide_eq_true (by first | (with_reducible assumption) | assumption)
                      have hx13 := bt_at a0 x5_1
                      replace p13 := eq_true p13
                      replace q13 := eq_true q13
                      go_wp2_with (first | ((with_reducible refine gate_builtin (b := .append) (xs := #[.tmp 23, .tmp 28]) rfl ?_); at_builtin; refine Kd.R_append Kd.string (w0 := w) w.heap.size rfl (.tmp 23) (.tmp 28) 46 9 (.string ⟨#[]⟩) 16 rfl Tryd.underlying46 info9 rfl (by decide) (by omega) u3 x3_1 (a0.extract (x4_1 : Int).toNat (x5_1 : Int).toNat) [.string (a0.extract (x4_1 : Int).toNat (x5_1 : Int).toNat)] (fun _ => True) (fun _ => False) rfl rfl ?aP (fun _ hk => hk.elim) ?aF ?aO ?aB ?aS ?aL ?_; (case aP => exact rfl); (case aB => exact (by repeat (first | (with_reducible first | exact HB.out | apply below_alloc | apply pw_below_drewN | apply below_drew1) | exact HB.out))); (case aF => exact (fun _ _ => trivial)); (case aO => exact (by (with_reducible repeat (first | apply Kd.R_alloc | apply Kd.R_drewN | apply Kd.R_drew)); exact HO_3.out)); (case aS => exact (below_size (by repeat (first | (with_reducible first | exact HB.out | apply below_alloc | apply pw_below_drewN | apply below_drew1) | exact HB.out)))); (case aL => have := LMc18.out; omega); intro v280 w19 ho hb hg hat; rw [← Ny279.out] at ho; have n0_ := Aside0.mk (hb); have n1_ := Aside0.mk (ho); clear HB; clear HO_3; have HB := n0_; have HO281 := n1_; clear n0_ n1_; clear ho hb hg hat))
                      go_roundg k1
                      case measure => have := HK1.out; omega
                      case rel => exact ⟨(y279), (wrap64 (x5_1 + 1)), (wrap64 (x5_1 + 1)), (by first | rfl | (simp; done) | (simp [*]; done)), (by first | rfl | (simp; done) | (simp [*]; done)), H', ⟨by have := HK1.out; omega⟩, ⟨by (with_reducible repeat (first | apply Kd.R_alloc | apply Kd.R_drewN | apply Kd.R_drew)); exact HO281.out⟩, ⟨by repeat (first | (with_reducible first | exact HB.out | apply below_alloc | apply pw_below_drewN | apply below_drew1) | exact HB.out)⟩⟩
                    · rw [if_neg c18] at H
                      exact absurd H (by simp)
                  · rw [if_neg c16] at H
                    exact absurd H (by simp)
                · rw [if_neg c15] at H
                  exact absurd H (by simp)
              · rw [if_neg c14] at H
                have c14b0 : ((bt a0 x5_1) == 32) = false := beq_eq_false_iff_ne.mpr c14
                have c14b1 : ((bt a0 x5_1) != 32) = true := bne_iff_ne.mpr c14
                have H' := Aside0.mk H
                clear H
                have p13 : 0 ≤ (x5_1 : Int) := of_decide_eq_true (by first | (with_reducible assumption) | assumption)
                have q13 : x5_1 < (a0.size : Int) := of_decide_eq_true (by first | (with_reducible assumption) | assumption)
                have hx13 := bt_at a0 x5_1
                replace p13 := eq_true p13
                replace q13 := eq_true q13
                go_wp2
                go_roundg k1
                case measure => have := HK1.out; omega
                case rel => exact ⟨(x3_1), (x4_1), (wrap64 (x5_1 + 1)), (by first | rfl | (simp; done) | (simp [*]; done)), (by first | rfl | (simp; done) | (simp [*]; done)), H', ⟨by have := HK1.out; omega⟩, ⟨by (with_reducible repeat (first | apply Kd.R_alloc | apply Kd.R_drewN | apply Kd.R_drew)); exact HO_3.out⟩, ⟨by repeat (first | (with_reducible first | exact HB.out | apply below_alloc | apply pw_below_drewN | apply below_drew1) | exact HB.out)⟩⟩
            · rw [if_neg c12] at H
              exact absurd H (by simp)
          · rw [if_neg c11] at H
            exact absurd H (by simp)
      · rw [if_neg c4] at H
        have c4b0 : decide (x5_1 ≤ (a0.size : Int)) = false := decide_eq_false c4
        clear c4
        obtain rfl := Option.some.inj H
        go_wp2
        go_ret
        exact ⟨_, by first | rfl | (simp [errW_none, errW_some] <;> rfl) | (simp [*, errW_none, errW_some] <;> rfl), by (with_reducible repeat (first | apply Kd.R_alloc | apply Kd.R_drewN | apply Kd.R_drew)); exact HO_3.out, by repeat (first | (with_reducible first | exact HB.out | apply below_alloc | apply pw_below_drewN | apply below_drew1) | exact HB.out)⟩
end Go.Proofs.YtiapfhlipoomaaaDoor.Print
end
