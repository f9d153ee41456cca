/- (*book).holds: all lists read as they must. -/
import Derived.Test.YtmingnhhmaclaaaBookA
import Derived.BigQuiet
namespace Go.Proofs.Ytmingnhhmaclaaa.Bk
open Go.RowKit Go.Proofs.YtmingnhhmaclaaaW.PrintWords Go.Proofs.YtmingnhhmaclaaaW.PrintLast Go.Proofs.YtmingnhhmaclaaaW.PrintMore Go.Proofs.Ytmingnhhmaclaaa.Print Go.Proofs.Ytmingnhhmaclaaa.Given
set_option linter.unusedVariables false
set_option linter.unusedSimpArgs false

set_option maxRecDepth 100000 in
set_option maxHeartbeats 2000000 in
theorem holds_any (gh base : Nat) (vo vw : Value) (fr : Int) (ol wl : List Value) (cs : List (List S40)) (w : World) (hb : BkAt w gh base vo vw fr ol wl) (ho : Lists k40 w base 40 ol cs) (hw : Lists k40 w base 40 wl cs)
    (hk : ∀ xs ∈ cs, ∃ k, squintlaw01_same.f k xs xs = some true) (hlen : ol.length ≤ 1000000) :
    Calls Try.prog 33 #[.pointer (some ⟨gh, 0, none⟩)] w fun e w' => e = .returned (.bool true) ∧ Below w.heap.size w w' := by
  obtain ⟨Ao, co, rfl⟩ := raw_form hb.ro
  obtain ⟨Aw, cw, rfl⟩ := raw_form hb.rw
  have hlo := ho.len
  have hlw := hw.len
  have HBK := Aside0.mk hb
  have HO := Aside0.mk ho
  have HW := Aside0.mk hw
  have HK := Aside0.mk hk
  have HB := Aside0.mk (Below.refl w.heap.size w)
  have HLO := Aside0.mk hlo
  have HLW := Aside0.mk hlw
  clear hb ho hw hk hlo hlw
  go_enter Try.func33, Try.ntmps33
  go_wp2_with (fail)
  go_loopw [3] (fun v3 wr => ∃ j : Nat, v3 = .int .i64 j ∧ j ≤ ol.length ∧ Aside0 (Below w.heap.size w wr)) (fun v3 _ => ol.length - (intOf v3).toNat)
  case atStart => exact ⟨0, rfl, by omega, HB⟩
  case round =>
    clear HB
    obtain ⟨j, rfl, hj, HB⟩ := hrel
    obtain ⟨wo, rfl⟩ : ∃ wo : World, wo = wr := ⟨_, rfl⟩
    have HBK2 : Aside0 (BkAt wo gh base (.slice Ao ol.length co) (.slice Aw wl.length cw) fr ol wl) := ⟨HBK.out.kt (KT.below HB.out) (KT.below HB.out)⟩
    have x0 : wo.cell? ⟨gh, 0, none⟩ = some (.slice Ao ol.length co) := (blk_cell HBK2.out.blk 0).trans rfl
    by_cases hlt : j < ol.length
    · have x1 : wo.cell? ⟨gh, 1, none⟩ = some (.slice Aw wl.length cw) := (blk_cell HBK2.out.blk 1).trans rfl
      obtain ⟨v, xs, hv, hxs, hR⟩ := (HO.out.below HB.out).get (j := j) (by have := HLO.out; omega)
      obtain ⟨u, xs', hu, hxs', hR2⟩ := (HW.out.below HB.out).get (j := j) (by have := HLO.out; omega)
      rw [hxs] at hxs'
      injection hxs' with hxs'
      subst hxs'
      obtain ⟨kk, hkk⟩ := HK.out xs (List.mem_of_getElem? hxs)
      obtain ⟨A1, c1, rfl⟩ := Kd.R_slice hR
      obtain ⟨A2, c2, rfl⟩ := Kd.R_slice hR2
      obtain ⟨go, co2, e, _⟩ := raw_head HBK2.out.ro (by omega)
      injection e with e1 e2 e3
      subst e1
      obtain ⟨gw, cw2, e, _⟩ := raw_head HBK2.out.rw (by have := HLO.out; have := HLW.out; omega)
      injection e with e1 e4 e5
      subst e1
      have y0 := raw_at HBK2.out.ro hv
      have y1 := raw_at HBK2.out.rw hu
      have hjw : j < wl.length := by have := HLO.out; have := HLW.out; omega
      have HC1 := Aside0.mk (Kd.R_reads' hR)
      have HC2 := Aside0.mk (Kd.R_reads' hR2)
      have HKK := Aside0.mk hkk
      clear hR hR2 hkk hxs hv hu e2 e3 e4 e5
      go_wp2_with (fail)
      go_quiet ((go_at_call 32; exact Calls.quiet_of ((squintlaw01_same.calls kk _ _ xs _ _ xs true _ (Kd.C_drewN HC1.out.2.2 _) HC1.out.2.1 (Kd.C_drewN HC2.out.2.2 _) HC2.out.2.1 HKK.out).mono fun _ _ h => ⟨h.1, h.2.out⟩)))
      go_wp2_with (fail)
      go_roundw
      case rel => exact ⟨j + 1, by go_num, by omega, ⟨pw_below_drewN HB.out _⟩⟩
      case measure => simp [intOf]; omega
    · obtain rfl : j = ol.length := by omega
      go_wp2_with (fail)
      go_returns
      exact ⟨rfl, HB.out⟩
end Go.Proofs.Ytmingnhhmaclaaa.Bk
