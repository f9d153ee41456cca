/- (*book).spoil: the lists are marked, then grow; all read so. -/
import Derived.Test.YtmingnhhmaclaaaBookB
namespace Go.Proofs.Ytmingnhhmaclaaa.Bk
open Go.RowKit Go.Proofs.YtmingnhhmaclaaaW.PrintWords Go.Proofs.YtmingnhhmaclaaaW.PrintLast Go.Proofs.YtmingnhhmaclaaaW.PrintMore Go.Proofs.Ytmingnhhmaclaaa.Print Go.Proofs.Ytmingnhhmaclaaa.Given
set_option linter.unusedVariables false
set_option linter.unusedSimpArgs false

/-- The blocks that spoil may write. -/
def okS (gh : Nat) (vo vw : Value) (all : List Value) (k : Nat) : Prop := k = gh ∨ vo.ownBlock = some k ∨ vw.ownBlock = some k ∨ ∃ (j : Nat) (v : Value), all[j]? = some v ∧ v.ownBlock = some k
def markY (i : Nat) : S40 := ⟨-1 - (i : Int), 0, 0, 0⟩
def markZ (i : Nat) : S40 := ⟨-1000 - (i : Int), 0, 0, 0⟩
theorem book_other {w w1 : World} {gh base : Nat} {vo vw : Value} {fr : Int} {ol wl : List Value} {v : Value} {xs : List S40} (h : BkAt w gh base vo vw fr ol wl) (hR : Kd.R k40 40 w base Any v xs) (hg : w.grownBy w1 v.ownBlock) : BkAt w1 gh base vo vw fr ol wl :=
  h.kt (KT.grown hg (Kd.R_typed hR) (by decide)) (KT.grown hg (Kd.R_typed hR) (by decide))
theorem seg_all (c s : List Value) (hs : s.length = 4) (hc : c.length = 4) : c.take 0 ++ s ++ c.drop (0 + s.length) = s := by
  rw [List.take_zero, List.nil_append, List.drop_eq_nil_of_le (by omega), List.append_nil]
set_option maxRecDepth 100000 in
set_option maxHeartbeats 4000000 in
theorem spoil_any (gh base : Nat) (vo vw : Value) (ol wl : List Value) (cs : List (List S40)) (w : World) (hb : BkAt w gh base vo vw 0 ol wl) (ho : Lists k40 w base 40 ol cs) (hw : Lists k40 w base 40 wl cs) (hp : Parted (ol ++ wl))
    (hk : ∀ xs : List S40, xs.length ≤ 1000000000 → ∃ k, squintlaw01_same.f k xs xs = some true) (hlen : ol.length ≤ 1000) (hx : ∀ xs ∈ cs, xs.length ≤ 100000000) (hbase : base ≤ w.heap.size) :
    Calls Try.prog 16 #[.pointer (some ⟨gh, 0, none⟩)] w fun e w' => e = .returned (.bool true) ∧ Kept (okS gh vo vw (ol ++ wl)) w w' := by
  obtain ⟨Ao, co, rfl⟩ := raw_form hb.ro
  obtain ⟨Aw, cw, rfl⟩ := raw_form hb.rw
  have hlo := ho.len
  have hlw := hw.len
  have HBK := Aside0.mk hb
  have HLL : Aside0 (Lists k40 w base 40 (ol ++ wl) (markC markY 0 0 cs ++ markC markY 0 0 cs)) := ⟨by rw [markC_zero]; exact ho.append hw⟩
  have HK := Aside0.mk hk
  have HX := Aside0.mk hx
  have HP := Aside0.mk hp
  have HBS := Aside0.mk hbase
  have HKE := Aside0.mk (Kept.refl (okS gh (.slice Ao ol.length co) (.slice Aw wl.length cw) (ol ++ wl)) w)
  have HLO := Aside0.mk hlo
  have HLW := Aside0.mk hlw
  have P0 := Aside0.mk True.intro
  have HOLD := Aside0.mk (holds_any gh base _ _ 0 ol wl cs w hb ho hw (fun xs h => hk xs (by have := hx xs h; omega)) (by omega))
  have z2 : w.cell? ⟨gh, 2, none⟩ = some (.int .i64 0) := (blk_cell hb.blk 2).trans rfl
  have hbk0 := hb.blk
  clear hb ho hw hk hx hp hbase hlo hlw
  have HB0 := Aside0.mk hbk0
  clear hbk0
  go_enter Try.func16, Try.ntmps16
  go_upto_region 5 with (go_at_call 33; clear P0; refine HOLD.out.mono ?_; rintro e w1 ⟨rfl, hb⟩; have n0_ : Aside0 (BkAt w1 gh base (.slice Ao ol.length co) (.slice Aw wl.length cw) 0 ol wl) := ⟨HBK.out.kt (KT.below hb) (KT.below hb)⟩; have n1_ := Aside0.mk (HLL.out.below hb); have n2_ := Aside0.mk (HKE.out.below hb); have n3_ : Aside0 (base ≤ w1.heap.size) := ⟨Nat.le_trans HBS.out hb.size⟩; have z2b : w1.cell? ⟨gh, 2, none⟩ = some (.int .i64 0) := (blk_cell n0_.out.blk 2).trans rfl; have z0b : w1.cell? ⟨gh, 0, none⟩ = some (.slice Ao ol.length co) := (blk_cell n0_.out.blk 0).trans rfl; clear hb)
  have HBK := n0_
  have HLL := n1_
  have HKE := n2_
  clear n0_ n1_ n2_ HOLD HB0 z2b z0b n3_ z2
  go_loopw [6] (fun v6 wr => ∃ i : Nat, v6 = .int .i64 i ∧ i ≤ ol.length ∧ Aside0 (BkAt wr gh base (.slice Ao ol.length co) (.slice Aw wl.length cw) 0 ol wl) ∧ Aside0 (Lists k40 wr base 40 (ol ++ wl) (markC markY i 0 cs ++ markC markY i 0 cs)) ∧ Aside0 (Kept (okS gh (.slice Ao ol.length co) (.slice Aw wl.length cw) (ol ++ wl)) w wr)) (fun v6 _ => ol.length - (intOf v6).toNat)
  case atStart => exact ⟨0, rfl, by omega, HBK, HLL, HKE⟩
  case round =>
    clear HBK HLL HKE
    obtain ⟨i, rfl, hi, HBK, HLL, HKE⟩ := hrel
    obtain ⟨wo, rfl⟩ : ∃ wo : World, wo = wr := ⟨_, rfl⟩
    by_cases hlt : i < ol.length
    · obtain ⟨xs, hxs⟩ : ∃ xs, cs[i]? = some xs := ⟨_, List.getElem?_eq_getElem (by have := HLO.out; omega)⟩
      obtain ⟨v1, hv1⟩ : ∃ v, ol[i]? = some v := ⟨_, List.getElem?_eq_getElem hlt⟩
      obtain ⟨v2, hv2⟩ : ∃ v, wl[i]? = some v := ⟨_, List.getElem?_eq_getElem (by have := HLO.out; have := HLW.out; omega)⟩
      have hR1 := (HLL.out.left (by rw [markC_len]; exact HLO.out)).row i v1 _ hv1 (markC_at markY cs i 0 hxs)
      have hR2 := (HLL.out.right (by rw [markC_len]; exact HLO.out)).row i v2 _ hv2 (markC_at markY cs i 0 hxs)
      obtain ⟨A1, c1, rfl⟩ := Kd.R_slice hR1
      obtain ⟨A2, c2, rfl⟩ := Kd.R_slice hR2
      rw [mkK_len] at hv1 hv2
      obtain ⟨go, co2, e, _⟩ := raw_head HBK.out.ro (by omega)
      injection e with e1 e2 e3
      subst e1
      obtain ⟨gw, cw2, e, _⟩ := raw_head HBK.out.rw (by have := HLO.out; have := HLW.out; omega)
      injection e with e1 e4 e5
      subst e1
      have hxl := HX.out xs (List.mem_of_getElem? hxs)
      have HXS := Aside0.mk hxs
      have HV1 := Aside0.mk hv1
      have HV2 := Aside0.mk hv2
      have hjw : i < wl.length := by have := HLO.out; have := HLW.out; omega
      clear hR1 hR2 hxs hv1 hv2 e2 e3 e4 e5
      go_wp2_with (fail)
      go_loopw [7] (fun v7 wr => ∃ k : Nat, v7 = .int .i64 k ∧ k ≤ xs.length ∧ Aside0 (BkAt wr gh base (.slice (some ⟨go, 0, none⟩) ol.length co) (.slice (some ⟨gw, 0, none⟩) wl.length cw) 0 ol wl) ∧ Aside0 (Lists k40 wr base 40 (ol ++ wl) (markC markY i k cs ++ markC markY i k cs)) ∧ Aside0 (Kept (okS gh (.slice (some ⟨go, 0, none⟩) ol.length co) (.slice (some ⟨gw, 0, none⟩) wl.length cw) (ol ++ wl)) w wr)) (fun v7 _ => xs.length - (intOf v7).toNat)
      case atStart => exact ⟨0, rfl, by omega, HBK, HLL, HKE⟩
      case round =>
        clear HBK HLL HKE
        obtain ⟨k, rfl, hk, HBK, HLL, HKE⟩ := hrel
        obtain ⟨wi, rfl⟩ : ∃ wi : World, wi = wr := ⟨_, rfl⟩
        have x0 : wi.cell? ⟨gh, 0, none⟩ = some (.slice (some ⟨go, 0, none⟩) ol.length co) := (blk_cell HBK.out.blk 0).trans rfl
        have y0 := raw_at HBK.out.ro HV1.out
        have hR1 := (HLL.out.left (by rw [markC_len]; exact HLO.out)).row i _ _ HV1.out (markC_at markY cs i k HXS.out)
        by_cases hkn : k < xs.length
        · obtain ⟨b1, cb1, e, _⟩ := Kd.R_form hR1 (by rw [mkK_len]; omega)
          injection e with e1 e2 e3
          subst e1
          obtain ⟨c, hcl, _, hcc, _⟩ := Kd.R_elem hR1 (markY i) (k : Int) (by omega) (by omega)
          have HR1 := Aside0.mk hR1
          have HCL := Aside0.mk hcl
          have HCC := Aside0.mk hcc
          have OK1 : Aside0 (okS gh (.slice (some ⟨go, 0, none⟩) ol.length co) (.slice (some ⟨gw, 0, none⟩) wl.length cw) (ol ++ wl) b1) := ⟨Or.inr (Or.inr (Or.inr ⟨i, _, by rw [List.getElem?_append_left hlt]; exact HV1.out, rfl⟩))⟩
          clear hR1 hcl hcc e2 e3
          go_upto_region 11 with (refine Kd.R_store k40 (w0 := wi) base rfl rfl 40 (.tmp 52) (.tmp 51) rfl 40 (g := b1) (n := xs.length) (cap := c1) (o' := k * 4) (k : Int) 0 _ (markY i) (.agg #[.int .i64 (-1 - (i : Int)), .int .i64 0, .int .i64 0, .int .i64 0]) [.int .i64 (-1 - (i : Int)), .int .i64 0, .int .i64 0, .int .i64 0] c Any (fun _ => False) rfl (by rw [Int.toNat_natCast]; rfl) rfl rfl (by kernel_rfl) ?q0 HR1.out (by omega) (by omega) HCL.out HCC.out (by show 0 + 4 ≤ 4; omega) ?q1 (fun _ hk => hk.elim) (Below.refl _ _) ?_; (case q0 => intro u hu; simp only [List.mem_cons, List.not_mem_nil, or_false] at hu; rcases hu with rfl | rfl | rfl | rfl <;> rfl); (case q1 => rw [seg_all c _ rfl HCL.out]; exact k40_mkM _ _ _ (markY i)); intro w5 ho hb hg; have HO5 := Aside0.mk ho; have HG5 := Aside0.mk hg; clear ho hb hg)
          rw [Int.toNat_natCast] at HO5
          have n0_ := Aside0.mk (book_other HBK.out HR1.out HG5.out)
          have n1_ := Aside0.mk (markO rfl HP.out HLO.out HLL.out HV1.out HXS.out HG5.out HO5.out)
          have n2_ := Aside0.mk (HKE.out.grown HG5.out (fun q hq => Or.inl (by injection hq with hq; subst hq; exact OK1.out)))
          clear HBK HLL HKE HR1 HCL HCC OK1 HO5 HG5 x0 y0
          have HBK := n0_
          have HLL := n1_
          have HKE := n2_
          clear n0_ n1_ n2_
          have x1 : w5.cell? ⟨gh, 1, none⟩ = some (.slice (some ⟨gw, 0, none⟩) wl.length cw) := (blk_cell HBK.out.blk 1).trans rfl
          have y1 := raw_at HBK.out.rw HV2.out
          have hR2 := (HLL.out.right (by rw [markC_len]; exact HLO.out)).row i _ _ HV2.out (markC_at markY cs i k HXS.out)
          obtain ⟨b2, cb2, e, _⟩ := Kd.R_form hR2 (by rw [mkK_len]; omega)
          injection e with e1 e2 e3
          subst e1
          obtain ⟨d, hcl, _, hcc, _⟩ := Kd.R_elem hR2 (markY i) (k : Int) (by omega) (by omega)
          have HR2 := Aside0.mk hR2
          have HCL := Aside0.mk hcl
          have HCC := Aside0.mk hcc
          have OK2 : Aside0 (okS gh (.slice (some ⟨go, 0, none⟩) ol.length co) (.slice (some ⟨gw, 0, none⟩) wl.length cw) (ol ++ wl) b2) := ⟨Or.inr (Or.inr (Or.inr ⟨ol.length + i, _, by rw [List.getElem?_append_right (by omega), Nat.add_sub_cancel_left]; exact HV2.out, rfl⟩))⟩
          clear hR2 hcl hcc e2 e3
          go_wp2_with (refine Kd.R_store k40 (w0 := w5) base rfl rfl 40 (.tmp 64) (.tmp 63) rfl 40 (g := b2) (n := xs.length) (cap := c2) (o' := k * 4) (k : Int) 0 _ (markY i) (.agg #[.int .i64 (-1 - (i : Int)), .int .i64 0, .int .i64 0, .int .i64 0]) [.int .i64 (-1 - (i : Int)), .int .i64 0, .int .i64 0, .int .i64 0] d Any (fun _ => False) rfl (by rw [Int.toNat_natCast]; rfl) rfl rfl (by kernel_rfl) ?q0 HR2.out (by omega) (by omega) HCL.out HCC.out (by show 0 + 4 ≤ 4; omega) ?q1 (fun _ hk => hk.elim) (Below.refl _ _) ?_; (case q0 => intro u hu; simp only [List.mem_cons, List.not_mem_nil, or_false] at hu; rcases hu with rfl | rfl | rfl | rfl <;> rfl); (case q1 => rw [seg_all d _ rfl HCL.out]; exact k40_mkM _ _ _ (markY i)); intro w6 ho hb hg; have HO6 := Aside0.mk ho; have HG6 := Aside0.mk hg; clear ho hb hg)
          rw [Int.toNat_natCast] at HO6
          have n0_ := Aside0.mk (book_other HBK.out HR2.out HG6.out)
          have n1_ := Aside0.mk (markW rfl HP.out HLO.out HLL.out HV2.out HXS.out HG6.out HO6.out)
          have n2_ := Aside0.mk (HKE.out.grown HG6.out (fun q hq => Or.inl (by injection hq with hq; subst hq; exact OK2.out)))
          clear HBK HLL HKE
          go_roundw
          case rel => exact ⟨k + 1, by go_num, by omega, n0_, n1_, n2_⟩
          case measure => simp [intOf]; omega
        · obtain rfl : k = xs.length := by omega
          rw [markC_next markY cs i HXS.out] at HLL
          clear hR1
          go_wp2_with (fail)
          go_roundw
          case rel => exact ⟨i + 1, by go_num, by omega, HBK, HLL, HKE⟩
          case measure => simp [intOf]; omega
    · obtain rfl : i = ol.length := by omega
      obtain ⟨F, hF⟩ : ∃ F, F = markC markY ol.length 0 cs := ⟨_, rfl⟩
      rw [← hF] at HLL
      have hFl : F.length = cs.length := by rw [hF, markC_len]
      have HFX : Aside0 (∀ xs ∈ F, xs.length ≤ 100000000) := ⟨by rw [hF]; exact markC_bound markY cs _ _ _ HX.out⟩
      have HLF : Aside0 (ol.length = F.length) := ⟨by rw [hFl]; exact HLO.out⟩
      have HOLD2 := Aside0.mk (holds_any gh base _ _ 0 ol wl F wo HBK.out (HLL.out.left HLF.out) (HLL.out.right HLF.out) (fun xs h => HK.out xs (by have := HFX.out xs h; omega)) (by omega))
      have P1 := Aside0.mk True.intro
      clear hF hFl
      go_upto_region 14 with (go_at_call 33; clear P1; refine HOLD2.out.mono ?_; rintro e wb ⟨rfl, hb⟩; have n0_ : Aside0 (BkAt wb gh base (.slice Ao ol.length co) (.slice Aw wl.length cw) 0 (ol ++ []) (wl ++ [])) := ⟨by rw [List.append_nil, List.append_nil]; exact HBK.out.kt (KT.below hb) (KT.below hb)⟩; have n1_ := Aside0.mk (HLL.out.below hb); have n2_ := Aside0.mk (HKE.out.below hb); clear hb)
      clear HOLD2 HBK HLL HKE
      have HD : Aside0 (Doubles k40 wb base 40 wb.heap.size ol wl F [] [] []) := ⟨⟨n1_.out.left HLF.out, n1_.out.right HLF.out, Lists.nil, Lists.nil, fun j u h => by simp at h, fun j u h => by simp at h, fun j v hv k hk => (n1_.out.lt j v hv k hk).1⟩⟩
      have HSZ : Aside0 (w.heap.size ≤ wb.heap.size) := ⟨n2_.out.size⟩
      have HN : Aside0 (wb.heap.size ≤ wb.heap.size) := ⟨Nat.le_refl _⟩
      obtain ⟨N0, hN0⟩ : ∃ N0, N0 = wb.heap.size := ⟨_, rfl⟩
      have HD2 : Aside0 (Doubles k40 wb base 40 N0 ol wl F [] [] []) := ⟨by rw [hN0]; exact HD.out⟩
      have HN2 : Aside0 (N0 ≤ wb.heap.size) := ⟨by rw [hN0]; exact Nat.le_refl _⟩
      have HSZ2 : Aside0 (w.heap.size ≤ N0) := ⟨by rw [hN0]; exact HSZ.out⟩
      clear HD HN HSZ hN0 n1_
      go_loopw [8] (fun v8 wr => ∃ (i : Nat) (vo' vw' : Value) (ol2 wl2 : List Value) (G : List (List S40)), v8 = .int .i64 i ∧ i ≤ ol.length ∧ ol2.length = i ∧ Aside0 (BkAt wr gh base vo' vw' 0 (ol ++ ol2) (wl ++ wl2)) ∧ Aside0 (Doubles k40 wr base 40 N0 ol wl F ol2 wl2 G) ∧ Aside0 (∀ g ∈ G, g.length ≤ 100000020) ∧ Aside0 (N0 ≤ wr.heap.size) ∧ Aside0 (∀ k, vo'.ownBlock = some k → okS gh (.slice Ao ol.length co) (.slice Aw wl.length cw) (ol ++ wl) k ∨ w.heap.size ≤ k) ∧ Aside0 (∀ k, vw'.ownBlock = some k → okS gh (.slice Ao ol.length co) (.slice Aw wl.length cw) (ol ++ wl) k ∨ w.heap.size ≤ k) ∧ Aside0 (Kept (okS gh (.slice Ao ol.length co) (.slice Aw wl.length cw) (ol ++ wl)) w wr)) (fun v8 _ => ol.length - (intOf v8).toNat)
      case atStart => exact ⟨0, _, _, [], [], [], rfl, by omega, rfl, n0_, HD2, ⟨fun g h => by cases h⟩, HN2, ⟨fun k hk => Or.inl (Or.inr (Or.inl hk))⟩, ⟨fun k hk => Or.inl (Or.inr (Or.inr (Or.inl hk)))⟩, n2_⟩
      case round =>
        clear n0_ HD2 HN2 n2_
        obtain ⟨i, vo', vw', ol2, wl2, G, rfl, hi, hol2, HBK, HD, HG, HN, HVO, HVW, HKE⟩ := hrel
        obtain ⟨wi, rfl⟩ : ∃ wi : World, wi = wr := ⟨_, rfl⟩
        by_cases hlt : i < ol.length
        · subst hol2
          have hjw : ol2.length < wl.length := by have := HLO.out; have := HLW.out; omega
          obtain ⟨xs, hxs⟩ : ∃ xs, F[ol2.length]? = some xs := ⟨_, List.getElem?_eq_getElem (by have := HLF.out; omega)⟩
          obtain ⟨v1, hv1⟩ : ∃ v, ol[ol2.length]? = some v := ⟨_, List.getElem?_eq_getElem hlt⟩
          obtain ⟨v2, hv2⟩ : ∃ v, wl[ol2.length]? = some v := ⟨_, List.getElem?_eq_getElem hjw⟩
          have hR1 := HD.out.a.row _ v1 xs hv1 hxs
          have hR2 := HD.out.b.row _ v2 xs hv2 hxs
          obtain ⟨A1, c1, rfl⟩ := Kd.R_slice hR1
          obtain ⟨A2, c2, rfl⟩ := Kd.R_slice hR2
          have hxl := HFX.out xs (List.mem_of_getElem? hxs)
          have hwl2 : wl2.length = ol2.length := HD.out.e.len.trans HD.out.c.len.symm
          have hw1 : (ol ++ ol2)[ol2.length]? = some (.slice A1 xs.length c1) := by rw [List.getElem?_append_left hlt]; exact hv1
          have hw2 : (wl ++ wl2)[ol2.length]? = some (.slice A2 xs.length c2) := by rw [List.getElem?_append_left hjw]; exact hv2
          have hnl : (ol ++ ol2).length ≤ 1000000 ∧ (wl ++ wl2).length ≤ 1000000 := by rw [List.length_append, List.length_append]; have := HLO.out; have := HLW.out; omega
          have hpo : ol2.length < (ol ++ ol2).length := by rw [List.length_append]; omega
          have hpw : ol2.length < (wl ++ wl2).length := by rw [List.length_append]; omega
          obtain ⟨oo, hoo⟩ : ∃ oo, oo = ol ++ ol2 := ⟨_, rfl⟩
          obtain ⟨ww, hww⟩ : ∃ ww, ww = wl ++ wl2 := ⟨_, rfl⟩
          rw [← hoo] at hw1 hnl hpo HBK
          rw [← hww] at hw2 hnl hpw HBK
          obtain ⟨go, co2, rfl, _⟩ := raw_head HBK.out.ro (by omega)
          obtain ⟨gw, cw2, rfl, _⟩ := raw_head HBK.out.rw (by omega)
          have x0 : wi.cell? ⟨gh, 0, none⟩ = some (.slice (some ⟨go, 0, none⟩) oo.length co2) := (blk_cell HBK.out.blk 0).trans rfl
          have y0 := raw_at HBK.out.ro hw1
          have HNL := Aside0.mk hnl
          have HR1 := Aside0.mk hR1
          have HR2 := Aside0.mk hR2
          have HXS := Aside0.mk hxs
          have HV1 := Aside0.mk hv1
          have HV2 := Aside0.mk hv2
          have HW2 := Aside0.mk hw2
          have HOO := Aside0.mk hoo
          have HWW := Aside0.mk hww
          have HWL2 := Aside0.mk hwl2
          have HBI : Aside0 (base ≤ wi.heap.size) := ⟨Nat.le_trans HBS.out HKE.out.size⟩
          have HTA : Aside0 ((([] : List S40).length + xs.length) * 32 ≤ 140737488355328) := ⟨by rw [List.length_nil]; omega⟩
          clear hR1 hR2 hxs hv1 hv2 hw1 hw2 hnl hoo hww hwl2
          go_upto_region 19 with (first
            | ((with_reducible refine gate_dst (N := 83) rfl ?_); refine Kd.R_lit k40 (w0 := wi) base 40 ?hg (N := 83) ?hd (xs := ([] : List S40)) (inner := []) (ok := Any) (okp := Any) ?hr ?hp (fun _ hk => hk) trivial ?hb ?hs (by simp) ?_; (case hd => rfl); (case hg => rfl); (case hr => first | (go_simp; done) | (go_simp; rfl)); (case hp => exact (Reps.none _ _)); (case hb => exact Below.refl _ _); (case hs => exact HBI.out); intro v7 w7 ho _ hg hat; have HM0 := Aside0.mk ho; have HG7 := Aside0.mk hg; have HA7 := Aside0.mk hat; have HBK7 : Aside0 (BkAt w7 gh base (.slice (some ⟨go, 0, none⟩) oo.length co2) (.slice (some ⟨gw, 0, none⟩) ww.length cw2) 0 oo ww) := ⟨HBK.out.kt (KT.of_none hg) (KT.of_none hg)⟩; have x1 : w7.cell? ⟨gh, 1, none⟩ = some (.slice (some ⟨gw, 0, none⟩) ww.length cw2) := (blk_cell HBK7.out.blk 1).trans rfl; have y1 := raw_at HBK7.out.rw HW2.out; clear ho hg hat HBK7)
            | ((with_reducible refine gate_builtin (b := .append) (xs := #[.tmp 84, .tmp 91]) rfl ?_); at_builtin; refine Kd.R_append_rows k40 (w0 := w7) base rfl (.tmp 84) (.tmp 91) 31 40 (.agg #[(.int .i64 0), (.int .i64 0), (.int .i64 0), (.int .i64 0)]) 32 rfl Try.underlying31 infoE rfl (by decide) (by omega) v7 [] xs _ _ _ Any (fun _ => False) rfl rfl ?aO ?aR (fun _ _ h => h) (fun _ h => h.elim) (fun _ _ => trivial) ?aB ?aS ?aL ?_; (case aR => exact (Kd.R_reads' (R_kt rfl HR2.out (KT.of_none HG7.out))).2.2); (case aB => exact Below.refl _ _); (case aO => exact HM0.out); (case aS => exact Nat.le_trans HBI.out HG7.out.size); (case aL => exact HTA.out); intro v8 w8 ho _ hg hat; have HM : Aside0 (Kd.R k40 40 w8 base Any v8 xs) := ⟨ho⟩; have HG8 := Aside0.mk hg; have HA8 := Aside0.mk hat; clear ho hg hat))
          have HPR : Aside0 (Pair2 k40 wi w8 base 40 (.slice A1 xs.length c1) xs.length (.slice A1 xs.length c1) v8 xs xs) := by
            have e7 : Ext wi w7 40 (Kd.sz k40) (.slice A1 xs.length c1) xs.length := ext_other (Ext.refl _ _ _ _ _) HG7.out (fun k hk => by cases hk)
            have l7 : ∀ k, v7.ownBlock = some k → wi.heap.size ≤ k := fun k hk => by
              obtain ⟨b, hb, hle⟩ := HA7.out
              rw [hb] at hk
              injection hk with hk
              omega
            have e8 := ext_other e7 HG8.out l7
            have l8 : ∀ k, v8.ownBlock = some k → wi.heap.size ≤ k := fun k hk => by
              rcases HA8.out with he | ⟨b, hb, hle⟩
              · exact l7 k (he ▸ hk)
              · rw [hb] at hk
                injection hk with hk
                have := HG7.out.size
                omega
            exact ⟨e8, R_stay HR1.out e8, HM.out, Side.refl, l8, fun k hk hm => by have := Kd.R_lt HR1.out k hk; have := l8 k hm; omega⟩
          clear HM HG7 HG8 HA7 HA8 HM0 x0 y0 x1 y1
          go_wp2_with (fail)
          go_loopw [9, 10, 11] (fun v9 v10 v11 wr => ∃ (q : Nat) (gl : List S40), v11 = .int .i64 q ∧ q ≤ 20 ∧ gl.length = xs.length + q ∧ Aside0 (Pair2 k40 wi wr base 40 (.slice A1 xs.length c1) xs.length v9 v10 gl gl)) (fun _ _ v11 _ => 20 - (intOf v11).toNat)
          case atStart => exact ⟨0, xs, rfl, by omega, rfl, HPR⟩
          case round =>
            clear HPR
            obtain ⟨q, gl, rfl, hq, hgl, HPR⟩ := hrel
            obtain ⟨wj, rfl⟩ : ∃ wj : World, wj = wr := ⟨_, rfl⟩
            have HGL := Aside0.mk hgl
            clear hgl
            by_cases hq20 : q < 20
            · have HBJ : Aside0 (base ≤ wj.heap.size) := ⟨Nat.le_trans HBI.out HPR.out.ext.grown.size⟩
              have HTL : Aside0 ((gl.length + 1) * 32 ≤ 140737488355328) := ⟨by have := HGL.out; omega⟩
              go_wp2_with (first
                | ((with_reducible refine gate_builtin (b := .append) (xs := #[.tmp 97, .tmp 101]) rfl ?_); at_builtin; refine R_append_beside k40 (W := wj) base rfl (.tmp 97) (.tmp 101) 31 40 (.agg #[(.int .i64 0), (.int .i64 0), (.int .i64 0), (.int .i64 0)]) 32 rfl Try.underlying31 infoE rfl (by decide) (by decide) _ gl (markZ ol2.length) [.int .i64 (-1000 - (ol2.length : Int)), .int .i64 0, .int .i64 0, .int .i64 0] rfl rfl ?aZ1 HPR.out.l HBJ.out HTL.out ?_; (case aZ1 => exact k40_mkM _ _ _ (markZ ol2.length)); intro l1 w1 hr hg hst; have HP1 := Aside0.mk (HPR.out.stepL rfl hr hg hst); have HBJ1 : Aside0 (base ≤ w1.heap.size) := ⟨Nat.le_trans HBJ.out hg.size⟩; clear hr hg hst)
                | ((with_reducible refine gate_builtin (b := .append) (xs := #[.tmp 103, .tmp 107]) rfl ?_); at_builtin; refine R_append_beside k40 (W := w1) base rfl (.tmp 103) (.tmp 107) 31 40 (.agg #[(.int .i64 0), (.int .i64 0), (.int .i64 0), (.int .i64 0)]) 32 rfl Try.underlying31 infoE rfl (by decide) (by decide) _ gl (markZ ol2.length) [.int .i64 (-1000 - (ol2.length : Int)), .int .i64 0, .int .i64 0, .int .i64 0] rfl rfl ?aZ2 HP1.out.m HBJ1.out HTL.out ?_; (case aZ2 => exact k40_mkM _ _ _ (markZ ol2.length)); intro m1 w2 hr hg hst; have HP2 := Aside0.mk (HP1.out.stepM rfl hr hg (stays_at hst)); clear hr hg hst))
              go_roundw
              case rel => exact ⟨q + 1, _, by go_num, by omega, by rw [List.length_append, HGL.out]; rfl, HP2⟩
              case measure => simp [intOf]; omega
            · obtain rfl : q = 20 := by omega
              obtain ⟨A9, c9, rfl⟩ := Kd.R_slice HPR.out.l
              obtain ⟨A10, c10, rfl⟩ := Kd.R_slice HPR.out.m
              have HDJ := Aside0.mk (HD.out.step rfl HP.out HV1.out HXS.out HPR.out.ext HPR.out.l HPR.out.m HPR.out.sideL HPR.out.sm HN.out)
              have HBKJ := Aside0.mk (book_other HBK.out HR1.out HPR.out.ext.grown)
              have HKJ := Aside0.mk (HKE.out.grown HPR.out.ext.grown (fun k hk => Or.inl (Or.inr (Or.inr (Or.inr ⟨ol2.length, _, by rw [List.getElem?_append_left hlt]; exact HV1.out, hk⟩)))))
              have HSZ : Aside0 (base ≤ wj.heap.size) := ⟨Nat.le_trans HBS.out HKJ.out.size⟩
              have HNJ : Aside0 (N0 ≤ wj.heap.size) := ⟨Nat.le_trans HN.out HPR.out.ext.grown.size⟩
              clear HBK HKE HD HPR HN
              have HBK := HBKJ
              clear HBKJ
              have z0 : wj.cell? ⟨gh, 0, none⟩ = some (.slice (some ⟨go, 0, none⟩) oo.length co2) := (blk_cell HBK.out.blk 0).trans rfl
              go_upto_region 25 with ((with_reducible refine gate_builtin (b := .append) (xs := #[.tmp 113, .tmp 115]) rfl ?_); at_builtin; refine Kd.R_append (Kd.raw 1) (w0 := wj) base rfl (.tmp 113) (.tmp 115) 28 31 (.slice none 0 0) 24 rfl Try.underlying28 infoS rfl (by decide) (by omega) _ (oo.map (fun v => [v])) [.slice A9 gl.length c9] [.slice A9 gl.length c9] Any (fun _ => False) rfl rfl ?aP (fun _ hk => hk.elim) (fun _ _ => trivial) ?aO (Below.refl _ _) ?aS ?aL ?_; (case aP => exact raw_one _ rfl _ _ _); (case aO => exact HBK.out.ro); (case aS => exact HSZ.out); (case aL => rw [List.length_map]; have := HNL.out; omega); intro u1_ w11 ho hb hg hat; obtain ⟨Au, nu, cu, rfl⟩ : ∃ A_ n_ c_, u1_ = .slice A_ n_ c_ := (by obtain ⟨A_, c_, e_⟩ := Kd.R_slice ho; exact ⟨A_, _, c_, e_⟩); obtain ⟨c1_, f1_, hbk_, hkx_⟩ := Book.pushO HBK.out (by decide) ho hg hat; have HBK2 := Aside0.mk hbk_; have HKX2 := Aside0.mk hkx_; have HBB := Aside0.mk hb; have HRW_ := Aside0.mk hg; have HAT := Aside0.mk hat; clear HBK ho hb hg hat hbk_ hkx_)
              have n0_ := Aside0.mk (HDJ.out.kt rfl (HKX2.out 40 (by decide) (by decide)))
              have n1_ := Aside0.mk ((HKJ.out.grown HRW_.out HVO.out).set gh 0 (.slice Au nu cu) (Or.inl rfl))
              have n2_ : Aside0 (∀ k, (Value.slice Au nu cu).ownBlock = some k → okS gh (.slice Ao ol.length co) (.slice Aw wl.length cw) (ol ++ wl) k ∨ w.heap.size ≤ k) := ⟨fun k hk => by
                rcases HAT.out with he | ⟨b, hb, hle⟩
                · exact HVO.out k (he ▸ hk)
                · rw [hb] at hk
                  injection hk with hk
                  have := HKJ.out.size
                  omega⟩
              have n3_ : Aside0 (wj.heap.size ≤ (w11.setCell ⟨gh, 0, none⟩ (.slice Au nu cu)).heap.size) := ⟨by simpa [World.setCell] using HBB.out.size⟩
              clear HKX2 HAT HBB HRW_ c1_ f1_ z0 HVO HKJ HDJ
              generalize w11.setCell ⟨gh, 0, none⟩ (.slice Au nu cu) = w9 at n0_ n1_ n2_ n3_ HBK2 ⊢
              have HBK := HBK2
              have HSZ2 : Aside0 (base ≤ w9.heap.size) := ⟨Nat.le_trans HSZ.out n3_.out⟩
              have HNJ2 : Aside0 (N0 ≤ w9.heap.size) := ⟨Nat.le_trans HNJ.out n3_.out⟩
              clear HSZ HBK2 HNJ n3_
              have HSZ := HSZ2
              clear HSZ2
              have z1 : w9.cell? ⟨gh, 1, none⟩ = some (.slice (some ⟨gw, 0, none⟩) ww.length cw2) := (blk_cell HBK.out.blk 1).trans rfl
              go_wp2_with ((with_reducible refine gate_builtin (b := .append) (xs := #[.tmp 123, .tmp 125]) rfl ?_); at_builtin; refine Kd.R_append (Kd.raw 1) (w0 := w9) base rfl (.tmp 123) (.tmp 125) 28 31 (.slice none 0 0) 24 rfl Try.underlying28 infoS rfl (by decide) (by omega) _ (ww.map (fun v => [v])) [.slice A10 gl.length c10] [.slice A10 gl.length c10] Any (fun _ => False) rfl rfl ?aP (fun _ hk => hk.elim) (fun _ _ => trivial) ?aO (Below.refl _ _) ?aS ?aL ?_; (case aP => exact raw_one _ rfl _ _ _); (case aO => exact HBK.out.rw); (case aS => exact HSZ.out); (case aL => rw [List.length_map]; have := HNL.out; omega); intro u1_ w12 ho hb hg hat; obtain ⟨Aq, nq, cq, rfl⟩ : ∃ A_ n_ c_, u1_ = .slice A_ n_ c_ := (by obtain ⟨A_, c_, e_⟩ := Kd.R_slice ho; exact ⟨A_, _, c_, e_⟩); obtain ⟨c1_, f1_, hbk_, hkx_⟩ := Book.pushW HBK.out (by decide) ho hg hat; have HBK2 := Aside0.mk hbk_; have HKX2 := Aside0.mk hkx_; have HBB := Aside0.mk hb; have HRW_ := Aside0.mk hg; have HAT := Aside0.mk hat; clear HBK ho hb hg hat hbk_ hkx_)
              have m0_ := Aside0.mk (n0_.out.kt rfl (HKX2.out 40 (by decide) (by decide)))
              have m1_ := Aside0.mk ((n1_.out.grown HRW_.out HVW.out).set gh 1 (.slice Aq nq cq) (Or.inl rfl))
              have m2_ : Aside0 (∀ k, (Value.slice Aq nq cq).ownBlock = some k → okS gh (.slice Ao ol.length co) (.slice Aw wl.length cw) (ol ++ wl) k ∨ w.heap.size ≤ k) := ⟨fun k hk => by
                rcases HAT.out with he | ⟨b, hb, hle⟩
                · exact HVW.out k (he ▸ hk)
                · rw [hb] at hk
                  injection hk with hk
                  have := n1_.out.size
                  omega⟩
              have m3_ : Aside0 (N0 ≤ (w12.setCell ⟨gh, 1, none⟩ (.slice Aq nq cq)).heap.size) := ⟨Nat.le_trans HNJ2.out (by simpa [World.setCell] using HBB.out.size)⟩
              have m4_ := HBK2.out
              rw [HOO.out, HWW.out, List.append_assoc, List.append_assoc] at m4_
              go_roundw
              case rel => exact ⟨ol2.length + 1, _, _, _, _, _, by go_num, by omega, by simp, ⟨m4_⟩, m0_, ⟨fun g h => (List.mem_append.1 h).elim (HG.out g) (fun h => by rw [List.mem_singleton] at h; subst h; have := HGL.out; omega)⟩, m3_, n2_, m2_, m1_⟩
              case measure => simp [intOf]; omega
        · obtain rfl : i = ol.length := by omega
          have HLA := Aside0.mk (HD.out.a.append HD.out.c)
          have HLB := Aside0.mk (HD.out.b.append HD.out.e)
          have hol3 : (ol ++ ol2).length ≤ 1000000 := by rw [List.length_append]; omega
          obtain ⟨oo, hoo⟩ : ∃ oo, oo = ol ++ ol2 := ⟨_, rfl⟩
          obtain ⟨ww, hww⟩ : ∃ ww, ww = wl ++ wl2 := ⟨_, rfl⟩
          rw [← hoo, ← hww] at HBK
          rw [← hoo] at HLA hol3
          rw [← hww] at HLB
          obtain ⟨A3, c3, rfl⟩ := raw_form HBK.out.ro
          have HGX : Aside0 (∀ xs ∈ F ++ G, xs.length ≤ 1000000000) := ⟨fun xs h => (List.mem_append.1 h).elim (fun h => by have := HFX.out xs h; omega) (fun h => by have := HG.out xs h; omega)⟩
          have HSF : Aside0 (∀ n : Int, BkAt (wi.setCell ⟨gh, 2, none⟩ (.int .i64 n)) gh base (.slice A3 oo.length c3) vw' n oo ww) := ⟨fun n => HBK.out.setF (by decide) n⟩
          have HSA : Aside0 (∀ n : Int, Lists k40 (wi.setCell ⟨gh, 2, none⟩ (.int .i64 n)) base 40 oo (F ++ G)) := ⟨fun n => HLA.out.kt rfl (KT.set HBK.out.blk (by decide) 2 _)⟩
          have HSB : Aside0 (∀ n : Int, Lists k40 (wi.setCell ⟨gh, 2, none⟩ (.int .i64 n)) base 40 ww (F ++ G)) := ⟨fun n => HLB.out.kt rfl (KT.set HBK.out.blk (by decide) 2 _)⟩
          have HSK : Aside0 (∀ n : Int, Kept (okS gh (.slice Ao ol.length co) (.slice Aw wl.length cw) (ol ++ wl)) w (wi.setCell ⟨gh, 2, none⟩ (.int .i64 n))) := ⟨fun n => HKE.out.set gh 2 _ (Or.inl rfl)⟩
          have x0 : wi.cell? ⟨gh, 0, none⟩ = some (.slice A3 oo.length c3) := (blk_cell HBK.out.blk 0).trans rfl
          have x2 : wi.cell? ⟨gh, 2, none⟩ = some (.int .i64 0) := (blk_cell HBK.out.blk 2).trans rfl
          have f2 := blk_frozen HBK.out.blk 2
          have P2 := Aside0.mk True.intro
          clear hoo hww HLA HLB HBK HD HKE
          go_wp2_with (go_at_call 33; clear P2; refine (holds_any gh base _ _ _ oo ww (F ++ G) _ (HSF.out _) (HSA.out _) (HSB.out _) (fun xs h => HK.out xs (HGX.out xs h)) hol3).mono ?_; rintro e w8 ⟨rfl, hb⟩; have HB8 := Aside0.mk ((HSK.out _).below hb); clear hb)
          go_returns
          exact ⟨rfl, HB8.out⟩
end Go.Proofs.Ytmingnhhmaclaaa.Bk
