/- Lemmas for the claim (what no proof of it names is left out). -/
import Derived.Test.YtiapfhlipoomaaaDoorTbB
import Derived.StillTailTactics
import Derived.Laws.CopyOwn
import Derived.Laws.RangeAny
import Derived.Lib.OthersKept
import Derived.Lib.IndexMore
import Derived.Lib.CountLaws
section
namespace Go.Proofs.YtiapfhlipoomaaaDoor.Given
open Go.RowKit Go.Proofs.YtiapfhlipoomaaaDoorW.PrintWords Go.Proofs.YtiapfhlipoomaaaDoorW.PrintLast Go.Proofs.YtiapfhlipoomaaaDoorW.PrintMore Go.Proofs.YtiapfhlipoomaaaDoor.Print
set_option linter.unusedVariables false
set_option linter.unusedSimpArgs false
def kp (g : Nat) : Kd Nat := Kd.scalar (fun o => Value.pointer (some ⟨g, o, none⟩)) (fun _ => rfl)
theorem info45 : (Tryd.prog.info? 45).map (fun i => (i.zero, i.size, i.bytes)) = some (some (.pointer none), 1, 8) := by kernel_rfl
theorem kp_C {w : World} {g : Nat} {A : Option Addr} {fo : List Nat} (hl : fo.length ≤ 7) (h : ∀ (j o : Nat), fo[j]? = some o → ∃ ad, A = some ad ∧ ad.block ≠ g ∧ w.cell? (ad.add j) = some (.pointer (some ⟨g, o, none⟩))) : Kd.C (kp g) w A fo.length fo := by
  refine Kd.C_of_reads (enc := fun o => Value.pointer (some ⟨g, o, none⟩)) (d := 0) (h1 := fun _ => rfl) ⟨rfl, by omega, fun hn => ?_⟩
  obtain ⟨ad, ha, _, _⟩ := h 0 fo[0] (List.getElem?_eq_getElem hn)
  refine ⟨ad, ha, fun j hj => ?_⟩
  obtain ⟨ad', ha', _, hc⟩ := h j fo[j] (List.getElem?_eq_getElem hj)
  rw [ha] at ha'
  injection ha' with e
  subst e
  rw [hc]
  simp [hj]
theorem kp_at {w : World} {g base : Nat} {ok : Nat → Prop} {v : Value} {fo : List Nat} (h : Kd.R (kp g) 45 w base ok v fo) (hg : g < base) : ∃ A c, v = .slice A fo.length c ∧ ∀ (j o : Nat), fo[j]? = some o → ∃ ad, A = some ad ∧ ad.block ≠ g ∧ w.cell? (ad.add j) = some (.pointer (some ⟨g, o, none⟩)) := by
  obtain ⟨A, c, hv, hl, hC⟩ := Kd.R_reads h
  refine ⟨A, c, hv, fun j o hj => ?_⟩
  have hjl := (List.getElem?_eq_some_iff.1 hj).1
  obtain ⟨g', cap, hv', hB, _⟩ := Kd.R_form h (by omega)
  have hr := Kd.reads_of_C (enc := fun o => Value.pointer (some ⟨g, o, none⟩)) (d := 0) (h1 := fun _ => rfl) hC
  obtain ⟨ad, ha, hc⟩ := hr.2.2 (by omega)
  rw [hv] at hv'
  injection hv' with e1 _ _
  rw [ha] at e1
  injection e1 with e1
  refine ⟨ad, ha, by rw [e1]; show g' ≠ g; omega, ?_⟩
  rw [hc j hjl]
  simp [hj]
def FillSays (w : World) (g : Nat) (r : Option S24) (e : Ending) (w' : World) : Prop := match r with
  | some x => e = .returned (.bool true) ∧ (∃ u, w'.heap[g]? = some (.cells (evC x u) 24 (0, 0)) ∧ Kd.R (Kd.int .i64) 3 w' w.heap.size (fun k => w.heap.size ≤ k) u x.f7) ∧ Fr w.heap.size g w w'
  | none => e = .returned (.bool false) ∧ (∃ x A n c, w'.heap[g]? = some (.cells (evC x (.slice A n c)) 24 (0, 0))) ∧ Fr w.heap.size g w w'
theorem nums_some {l : List ByteArray} {t : ByteArray} {a : Nat} (h : l[a]? = some t) : l.drop a = t :: l.drop (a + 1) := by
  obtain ⟨hl, rfl⟩ := List.getElem?_eq_some_iff.1 h
  exact List.drop_eq_getElem_cons hl
set_option maxRecDepth 100000 in
set_option maxHeartbeats 16000000 in
theorem fill_c0 (k : Nat) (h1 : 1 ≤ k) (h2 : k ≤ 11) (hc : clsK k = 0) (g : Nat) (AF A2 : Option Addr) (c2 : Nat) (ws : List ByteArray) (w w0 : World) (hL : LW w0) (hB0 : Below w0.heap.size w0 w) (hg0 : w0.heap.size ≤ g) (hg : w.heap[g]? = some (.cells (evC ⟨k, 0, 0, 0, 0, 0, 0, []⟩ (.slice none 0 0)) 24 (0, 0)))
    (hF : ∀ (j o : Nat), (foK k)[j]? = some o → ∃ ad, AF = some ad ∧ ad.block ≠ g ∧ w.cell? (ad.add j) = some (.pointer (some ⟨g, o, none⟩))) (hws : WordsIn w g A2 ws) (hcap : ws.length ≤ c2) (hlen : ws.length ≤ 4294967296) (hsz : ∀ t ∈ ws, t.size ≤ 281474976710656) :
    Calls Tryd.prog 49 #[.pointer (some ⟨g, 0, none⟩), .agg #[.string (wordB k), .slice AF (foK k).length (foK k).length, .pointer none, .slice none 0 0, .pointer none, .bool (liK k)], .slice A2 ws.length c2] w (FillSays w g (fillOf k ws)) := by
  have hu24 := Tryd.underlying24
  have hu48 := Tryd.underlying48
  have hu46 := Tryd.underlying46
  have HL := Aside0.mk hL
  have HB0 := Aside0.mk hB0
  have HG0 := Aside0.mk hg0
  have HCL := Aside0.mk hc
  have HLEN := Aside0.mk hlen
  have HSZ := Aside0.mk hsz
  have hfl := fo_len k
  have GW := Aside0.mk (blk_lt hg)
  have BG0 := Aside0.mk (blk_below hg (bel1 w (.cells #[.string (wordB k), .slice AF (foK k).length (foK k).length, .pointer none, .slice none 0 0, .pointer none, .bool (liK k)] 48)))
  have FF0 := Aside0.mk (fun j o hj => by obtain ⟨ad, e1, e2, e3⟩ := hF j o hj; exact ⟨ad, e1, e2, pw_cell_below (bel1 w (.cells #[.string (wordB k), .slice AF (foK k).length (foK k).length, .pointer none, .slice none 0 0, .pointer none, .bool (liK k)] 48)) e3⟩ : ∀ (j o : Nat), (foK k)[j]? = some o → ∃ ad, AF = some ad ∧ ad.block ≠ g ∧ (w.alloc (.cells #[.string (wordB k), .slice AF (foK k).length (foK k).length, .pointer none, .slice none 0 0, .pointer none, .bool (liK k)] 48)).cell? (ad.add j) = some (.pointer (some ⟨g, o, none⟩)))
  have WS0 := Aside0.mk (hws.below (bel1 w (.cells #[.string (wordB k), .slice AF (foK k).length (foK k).length, .pointer none, .slice none 0 0, .pointer none, .bool (liK k)] 48)))
  have BF0 := Aside0.mk (heap_alloc_new w (.cells #[.string (wordB k), .slice AF (foK k).length (foK k).length, .pointer none, .slice none 0 0, .pointer none, .bool (liK k)] 48))
  have NF := Aside0.mk (show w.heap.size ≠ g from Nat.ne_of_gt (blk_lt hg))
  have HZ := Aside0.mk (bel1 w (.cells #[.string (wordB k), .slice AF (foK k).length (foK k).length, .pointer none, .slice none 0 0, .pointer none, .bool (liK k)] 48))
  have GZ := Aside0.mk (show g < (w.alloc (.cells #[.string (wordB k), .slice AF (foK k).length (foK k).length, .pointer none, .slice none 0 0, .pointer none, .bool (liK k)] 48)).heap.size by have := blk_lt hg; rw [size_alloc]; omega)
  have HCAP := Aside0.mk hcap
  clear hL hB0 hg0 hc hlen hsz hg hF hws hcap
  go_enter Tryd.func49, Tryd.ntmps49
  go_upto_region 2 with (fail)
  generalize w.heap.size = g4 at BF0 NF ⊢
  generalize w.alloc (.cells #[.string (wordB k), .slice AF (foK k).length (foK k).length, .pointer none, .slice none 0 0, .pointer none, .bool (liK k)] 48) = wz at *
  have y1 : wz.cell? ⟨g4, 1, none⟩ = some (.slice AF (foK k).length (foK k).length) := (blk_cell BF0.out 1).trans rfl
  have y2 : wz.cell? ⟨g4, 2, none⟩ = some (.pointer none) := (blk_cell BF0.out 2).trans rfl
  have KC := Aside0.mk (kp_C (by omega) FF0.out)
  obtain ⟨v0, hv0⟩ : ∃ v, v = Value.slice none 0 0 := ⟨_, rfl⟩
  rw [← hv0]
  have HV0 : Aside0 (Kd.R (kp g) 45 wz wz.heap.size (fun _ => True) v0 []) := ⟨by rw [hv0]; exact Kd.R_nil _ _ _ _ _⟩
  clear hv0
  go_wp2_with (first
    | ((with_reducible refine gate_builtin (b := .append) (xs := #[.tmp 16, .tmp 18]) rfl ?_); at_builtin; refine Kd.R_append_rows (kp g) (w0 := wz) wz.heap.size rfl (.tmp 16) (.tmp 18) 44 45 (.pointer none) 8 rfl Tryd.underlying44 info45 rfl Nat.one_pos (by omega) v0 ([] : List Nat) (foK k) AF (foK k).length (foK k).length (fun _ => True) (fun _ => False) rfl rfl HV0.out KC.out (fun _ _ h => h) (fun _ h => h.elim) (fun _ _ => trivial) (Below.refl _ _) (Nat.le_refl _) (by simp only [List.length_nil]; omega) ?_; intro v7 wl ho hb _ _; obtain ⟨Av, cv, rfl⟩ := Kd.R_slice ho; have HO := Aside0.mk ho; have HB1 := Aside0.mk hb; clear ho hb; have z2 : wl.cell? ⟨g4, 2, none⟩ = some (.pointer none) := cell_keep BF0.out HB1.out rfl))
  have HAT : Aside0 (Kd.R (kp g) 45 wl wz.heap.size (fun _ => True) (.slice Av ([] ++ foK k).length cv) (atK k)) := ⟨by have h := HO.out; rw [show atK k = [] ++ foK k by unfold atK; rw [HCL.out]; simp]; exact h⟩
  obtain ⟨Aa, ca, hva, hat⟩ := kp_at HAT.out GZ.out
  have hvl : (foK k).length = (atK k).length := by rw [show atK k = [] ++ foK k by unfold atK; rw [HCL.out]; simp]; simp
  have hvm : ([] ++ foK k).length = (atK k).length := by rw [show atK k = [] ++ foK k by unfold atK; rw [HCL.out]; simp]
  rw [hvm] at hva
  rw [hvl]
  (try rw [show ((foK k).length : Int) + 1 = ((atK k).length : Int) by omega])
  injection hva with hva1 _ hva3
  subst hva1 hva3
  clear hvm
  clear hvl
  have AT := Aside0.mk hat
  have HWL := Aside0.mk (HZ.out.trans (HB1.out.mono HZ.out.size))
  have BG := Aside0.mk (blk_below BG0.out HB1.out)
  have BF := Aside0.mk (blk_below BF0.out HB1.out)
  have WS := Aside0.mk (WS0.out.below HB1.out)
  have GL := Aside0.mk (blk_lt BG.out)
  have hal := at_len k
  clear hat HO HAT HV0 BG0 BF0 WS0 FF0 KC HB1 HZ y1 y2 z2
  go_loopw [2, 30] (fun v2 i wr => ∃ (a : Nat) (Aw : Option Addr) (cw : Nat) (us : List ByteArray) (x : S24), i = .int .i64 a ∧ a ≤ (atK k).length ∧ v2 = .slice Aw us.length cw ∧ us.length ≤ cw ∧ Aside0 (WordsIn wr g Aw us) ∧ Aside0 (us.length ≤ ws.length ∧ ∀ t ∈ us, t ∈ ws) ∧ Aside0 (fillNums (atK k) ws ⟨k, 0, 0, 0, 0, 0, 0, []⟩ = fillNums ((atK k).drop a) us x) ∧ Aside0 (x.f0 = k ∧ x.f7 = []) ∧ Aside0 (wr.heap[g]? = some (.cells (evC x (.slice none 0 0)) 24 (0, 0))) ∧ Aside0 (Fr wl.heap.size g wl wr)) (fun _ i _ => (atK k).length - (intOf i).toNat)
  case atStart => exact ⟨0, A2, c2, ws, _, rfl, by omega, rfl, HCAP.out, WS, ⟨Nat.le_refl _, fun _ h => h⟩, ⟨rfl⟩, ⟨rfl, rfl⟩, BG, ⟨⟨rfl, rfl, rfl, Nat.le_refl _, fun _ _ _ => rfl⟩⟩⟩
  case round =>
    clear BG WS
    obtain ⟨a, Aw, cw, us, x, rfl, ha, rfl, hcw, WS, US, HF, HX, BG, FR⟩ := hrel
    have hlm : us.length ≤ 4294967296 := Nat.le_trans US.out.1 HLEN.out
    by_cases hlt : a < (atK k).length
    · obtain ⟨o, ho⟩ : ∃ o, (atK k)[a]? = some o := ⟨_, List.getElem?_eq_getElem hlt⟩
      obtain ⟨ad1, hA1, hn1, hc1⟩ := AT.out a o ho
      subst hA1
      have HO6 := Aside0.mk (at_le k o (List.mem_of_getElem? ho))
      have HDR : Aside0 ((atK k).drop a = o :: (atK k).drop (a + 1)) := ⟨by obtain ⟨hl, rfl⟩ := List.getElem?_eq_some_iff.1 ho; exact List.drop_eq_getElem_cons hl⟩
      have x1 : wr.cell? (ad1.add a) = some (.pointer (some ⟨g, o, none⟩)) := FR.out.cell hc1 (Nat.le_refl _) (by rw [add_block]; exact hn1)
      have x2 : wr.cell? ⟨g, o, none⟩ = some (.int .i64 (getK x o)) := (blk_cell BG.out o).trans (ev_get x _ o HO6.out.1 HO6.out.2)
      clear hc1 hn1 ho
      cases us with
      | nil =>
        have HR : Aside0 (fillOf k ws = none) := ⟨by unfold fillOf; rw [HF.out, HDR.out]; rfl⟩
        simp only [List.length_nil] at hcw ⊢
        go_wp2_with (fail)
        go_ret
        rw [HR.out]
        exact ⟨rfl, ⟨_, _, _, _, BG.out⟩, (Fr.of_below HWL.out).trans (FR.out.mono HWL.out.size)⟩
      | cons t r =>
        simp only [List.length_cons] at hcw hlm ⊢
        obtain ⟨ad2, hA2, hw2⟩ := WS.out.2 0 t rfl
        subst hA2
        have x3 : wr.cell? ad2 = some (.string t) := hw2
        have HTS := Aside0.mk (HSZ.out t (US.out.2 t (List.mem_cons_self ..)))
        have FRW := Aside0.mk ((Fr.of_below HWL.out).trans (FR.out.mono HWL.out.size))
        have HLW : Aside0 (LW wr) := ⟨HL.out.below (HB0.out.trans (FRW.out.below HB0.out.size HG0.out))⟩
        cases hn : numOf t with
        | none =>
          have HN := Aside0.mk hn
          have HR : Aside0 (fillOf k ws = none) := ⟨by unfold fillOf; rw [HF.out, HDR.out, fillNums, HN.out]; rfl⟩
          clear hn
          go_wp2_with (go_at_call 58; refine (number_no t HN.out _ HLW.out HTS.out).mono ?_; rintro e w3 ⟨⟨v3, rfl⟩, hb⟩; have NB := Aside0.mk hb; clear hb)
          go_ret
          rw [HR.out]
          exact ⟨rfl, ⟨_, _, _, _, blk_below BG.out NB.out⟩, FRW.out.trans (Fr.of_below (NB.out.mono FRW.out.size))⟩
        | some n =>
          have HN := Aside0.mk hn
          have HF2 : Aside0 (fillNums (atK k) ws ⟨k, 0, 0, 0, 0, 0, 0, []⟩ = fillNums ((atK k).drop (a + 1)) r (setK x n o)) := ⟨by rw [HF.out, HDR.out, fillNums, HN.out]⟩
          have HX2 : Aside0 ((setK x n o).f0 = k ∧ (setK x n o).f7 = []) := ⟨by rw [setK_f0, setK_f7]; exact HX.out⟩
          obtain ⟨A3, hsl, hw3⟩ := words_tail WS.out cw (by omega)
          have WS3 := Aside0.mk hw3
          have US2 : Aside0 (r.length ≤ ws.length ∧ ∀ t ∈ r, t ∈ ws) := ⟨by have h1 := US.out.1; have h2 := US.out.2; simp only [List.length_cons] at h1; exact ⟨by omega, fun q hq => h2 q (List.mem_cons_of_mem _ hq)⟩⟩
          have hcw3 : r.length ≤ cw - 1 := by omega
          have HCW3 := Aside0.mk hcw3
          clear hn hw3 hcw3
          go_wp2_with (go_at_call 58; refine (number_yes t n HN.out _ HLW.out HTS.out).mono ?_; rintro e w3 ⟨rfl, hb⟩; have NB := Aside0.mk hb; clear hb; have BG3 := Aside0.mk (blk_below BG.out NB.out); have x4 : w3.cell? ⟨g, o, none⟩ = some (.int .i64 (getK x o)) := (blk_cell BG3.out o).trans (ev_get x _ o HO6.out.1 HO6.out.2); have x5 : w3.frozen? ⟨g, o, none⟩ = false := Lib.frozen_of_heap BG3.out o)
          have FR3 := Aside0.mk (fr_set (FR.out.trans (Fr.of_below (NB.out.mono FR.out.size))) o (.int .i64 n))
          have BG4 : Aside0 ((w3.setCell ⟨g, o, none⟩ (.int .i64 n)).heap[g]? = some (.cells (evC (setK x n o) (.slice none 0 0)) 24 (0, 0))) := ⟨blk_put BG3.out o _ (setK_cells x _ n o HO6.out.1 HO6.out.2)⟩
          have WS4 := Aside0.mk ((WS3.out.below NB.out).fr (base := w3.heap.size) (w' := w3.setCell ⟨g, o, none⟩ (.int .i64 n)) (fr_set ⟨rfl, rfl, rfl, Nat.le_refl _, fun _ _ _ => rfl⟩ o _) (Nat.le_refl _))
          go_roundw
          case rel => exact ⟨a + 1, A3, cw - 1, r, setK x n o, by go_num, by omega, rfl, HCW3.out, WS4, US2, HF2, HX2, BG4, FR3⟩
          case measure => simp [intOf]; omega
    · obtain rfl : a = (atK k).length := by omega
      have HF2 : Aside0 (fillNums (atK k) ws ⟨k, 0, 0, 0, 0, 0, 0, []⟩ = some (x, us)) := ⟨by rw [HF.out, List.drop_length]; rfl⟩
      have FRW := Aside0.mk ((Fr.of_below HWL.out).trans (FR.out.mono HWL.out.size))
      have z3 : wr.cell? ⟨g4, 3, none⟩ = some (.slice none 0 0) := (blk_cell (FR.out.blk BF.out (Nat.le_refl _) NF.out) 3).trans rfl
      clear HF ha hlt
      have HFO : Aside0 (fillOf k ws = fillRest (x, us)) := ⟨by unfold fillOf; rw [HF2.out]; simp only [Option.bind_some]; rw [show fillWord k (x, us) = some (x, us) by unfold fillWord; rw [HCL.out]; rfl]; rfl⟩
      go_wp2_with (fail)
      obtain ⟨wl2, rfl⟩ : ∃ wl2 : World, wl2 = wr := ⟨_, rfl⟩
      clear z3 HF2
      have UL : Aside0 (us.length ≤ 4294967296) := ⟨Nat.le_trans US.out.1 HLEN.out⟩
      have GL2 := Aside0.mk (blk_lt BG.out)
      go_loopw [77] (fun i wr => ∃ (a : Nat) (ns : List Int) (un : Value), i = .int .i64 a ∧ a ≤ us.length ∧ Aside0 (numsIn us = (numsIn (us.drop a)).map (ns ++ ·)) ∧ Aside0 (ns.length = a) ∧ Aside0 (wr.heap[g]? = some (.cells (evC x un) 24 (0, 0))) ∧ Aside0 (Kd.R (Kd.int .i64) 3 wr wl2.heap.size (fun k => wl2.heap.size ≤ k) un ns) ∧ Aside0 (Fr wl2.heap.size g wl2 wr)) (fun i _ => us.length - (intOf i).toNat)
      case atStart => exact ⟨0, [], _, rfl, by omega, ⟨by rw [List.drop_zero]; cases numsIn us <;> simp⟩, ⟨rfl⟩, BG, ⟨Kd.R_nil _ _ _ _ _⟩, ⟨⟨rfl, rfl, rfl, Nat.le_refl _, fun _ _ _ => rfl⟩⟩⟩
      case round =>
        clear BG
        obtain ⟨a, ns, un, rfl, ha, HN, HNL, BG, HO, FR2⟩ := hrel
        have hul := UL.out
        have FRX := Aside0.mk (FRW.out.trans (FR2.out.mono FRW.out.size))
        obtain ⟨Au, cu, rfl⟩ := Kd.R_slice HO.out
        by_cases hlt : a < us.length
        · obtain ⟨t, ht⟩ : ∃ t, us[a]? = some t := ⟨_, List.getElem?_eq_getElem hlt⟩
          obtain ⟨adw, hAw, hcw⟩ := WS.out.2 a t ht
          have had := WS.out.1 adw hAw
          subst hAw
          have x1 : wr.cell? (adw.add a) = some (.string t) := FR2.out.cell hcw (Nat.le_refl _) (by rw [add_block]; exact had)
          have HTS := Aside0.mk (HSZ.out t (US.out.2 t (List.mem_of_getElem? ht)))
          have HLW : Aside0 (LW wr) := ⟨HL.out.below (HB0.out.trans (FRX.out.below HB0.out.size HG0.out))⟩
          have HDR := Aside0.mk (nums_some ht)
          clear hcw had ht
          cases hn : numOf t with
          | none =>
            have HNN := Aside0.mk hn
            have HR : Aside0 (fillOf k ws = none) := ⟨by rw [HFO.out]; unfold fillRest; simp only; rw [HN.out, HDR.out, numsIn, HNN.out]; rfl⟩
            clear hn
            go_wp2_with (go_at_call 58; refine (number_no t HNN.out _ HLW.out HTS.out).mono ?_; rintro e w3 ⟨⟨v3, rfl⟩, hb⟩; have NB := Aside0.mk hb; clear hb)
            go_ret
            rw [HR.out]
            exact ⟨rfl, ⟨_, _, _, _, blk_below BG.out NB.out⟩, FRX.out.trans (Fr.of_below (NB.out.mono FRX.out.size))⟩
          | some n =>
            have HNN := Aside0.mk hn
            have HN2 : Aside0 (numsIn us = (numsIn (us.drop (a + 1))).map ((ns ++ [n]) ++ ·)) := ⟨by rw [HN.out, HDR.out, numsIn, HNN.out]; cases numsIn (us.drop (a + 1)) <;> simp⟩
            have HTL : Aside0 ((ns.length + 1) * 8 ≤ 140737488355328) := ⟨by rw [HNL.out]; omega⟩
            clear hn
            go_wp2_with (first
              | (go_at_call 58; refine (number_yes t n HNN.out _ HLW.out HTS.out).mono ?_; rintro e w3 ⟨rfl, hb⟩; have NB := Aside0.mk hb; clear hb; have BG3 := Aside0.mk (blk_below BG.out NB.out); have HO3 := Aside0.mk (Kd.R_below HO.out NB.out); have x7 : w3.cell? ⟨g, 7, none⟩ = some (.slice Au ns.length cu) := (blk_cell BG3.out 7).trans rfl)
              | ((with_reducible refine gate_builtin (b := .append) (xs := #[.tmp 92, .tmp 94]) rfl ?_); at_builtin; refine Kd.R_append (Kd.int .i64) (w0 := w3) wl2.heap.size rfl (.tmp 92) (.tmp 94) 22 3 (.int .i64 0) 8 rfl Tryd.underlying22 info3 rfl (by decide) (by omega) (.slice Au ns.length cu) ns n [.int .i64 n] (fun k => wl2.heap.size ≤ k) (fun _ => False) rfl rfl rfl (fun _ h => h.elim) (fun k hk => Nat.le_trans (Nat.le_trans FR2.out.size NB.out.size) hk) HO3.out (Below.refl _ _) (Nat.le_trans FR2.out.size NB.out.size) HTL.out ?_; intro v4 w4 ho hb _ _; obtain ⟨Av, cv, rfl⟩ := Kd.R_slice ho; have HO4 := Aside0.mk ho; have NB4 := Aside0.mk hb; clear ho hb; have BG4 : Aside0 (w4.heap[g]? = some (.cells (evC x (.slice Au ns.length cu)) 24 (0, 0))) := ⟨(NB4.out.block g GL2.out).trans BG3.out⟩; have x8 : w4.cell? ⟨g, 7, none⟩ = some (.slice Au ns.length cu) := (blk_cell BG4.out 7).trans rfl; have x9 : w4.frozen? ⟨g, 7, none⟩ = false := Lib.frozen_of_heap BG4.out 7))
            have HO5 : Aside0 (Kd.R (Kd.int .i64) 3 (w4.setCell ⟨g, 7, none⟩ (.slice Av (ns ++ [n]).length cv)) wl2.heap.size (fun k => wl2.heap.size ≤ k) (.slice Av (ns ++ [n]).length cv) (ns ++ [n])) := ⟨Kd.R_far HO4.out (fun k hk => Nat.ne_of_gt (Nat.lt_of_lt_of_le GL2.out hk)) _⟩
            have BG5 : Aside0 ((w4.setCell ⟨g, 7, none⟩ (.slice Av (ns ++ [n]).length cv)).heap[g]? = some (.cells (evC x (.slice Av (ns ++ [n]).length cv)) 24 (0, 0))) := ⟨blk_put BG4.out 7 _ rfl⟩
            have FR5 := Aside0.mk (fr_set ((FR2.out.trans (Fr.of_below (NB.out.mono FR2.out.size))).trans (Fr.of_below NB4.out)) 7 (.slice Av (ns ++ [n]).length cv))
            simp only [List.length_append, List.length_cons, List.length_nil, Nat.zero_add] at HO5 BG5 FR5
            go_roundw
            case rel => exact ⟨a + 1, ns ++ [n], _, by go_num, by omega, HN2, ⟨by rw [List.length_append, HNL.out]; rfl⟩, BG5, HO5, FR5⟩
            case measure => simp [intOf]; omega
        · obtain rfl : a = us.length := by omega
          have HNS : Aside0 (numsIn us = some ns) := ⟨by rw [HN.out, List.drop_length]; simp [numsIn]⟩
          obtain ⟨_, hcu, hC⟩ := Kd.R_reads' HO.out
          have HC := Aside0.mk hC
          have HCU := Aside0.mk hcu
          obtain ⟨y, hy⟩ : ∃ y : S24, y = ⟨x.f0, x.f1, x.f2, x.f3, x.f4, x.f5, x.f6, ns⟩ := ⟨_, rfl⟩
          have HY := Aside0.mk hy
          clear hC hcu hy hlt ha
          cases hok : okX y with
          | true =>
            have HCK : Aside0 (checkOf ⟨x.f0, x.f1, x.f2, x.f3, x.f4, x.f5, x.f6, ns⟩ = 0) := ⟨by rw [← HY.out, checkOf_ok, hok]; rfl⟩
            have HR : Aside0 (fillOf k ws = some y) := ⟨by rw [HFO.out]; unfold fillRest; simp only; rw [HNS.out]; simp only [Option.bind_some]; rw [← HY.out, if_pos hok]⟩
            clear hok
            go_wp2_with (first
              | (refine wpList_load_row rfl 24 (.tmp 100) rfl g rfl 24 (evC x (.slice Au ns.length cu)) (0, 0) _ BG.out Tryd.underlying24 rfl (by kernel_rfl) ?_)
              | (go_at_call 10; refine (chk_any ⟨x.f0, x.f1, x.f2, x.f3, x.f4, x.f5, x.f6, ns⟩ Au cu _ HC.out HCU.out).mono ?_; rw [HCK.out]; rintro e w5 ⟨rfl, hb⟩; have NB := Aside0.mk hb; clear hb))
            go_ret
            rw [HR.out]
            exact ⟨rfl, ⟨_, by rw [HY.out]; exact blk_below BG.out NB.out, by rw [HY.out]; exact Kd.R_mono (Kd.R_lower (Kd.R_below HO.out NB.out) FRW.out.size) (fun k hk => Nat.le_trans FRW.out.size hk)⟩, FRX.out.trans (Fr.of_below (NB.out.mono FRX.out.size))⟩
          | false =>
            have HCK : Aside0 (checkOf ⟨x.f0, x.f1, x.f2, x.f3, x.f4, x.f5, x.f6, ns⟩ = 180) := ⟨by rw [← HY.out, checkOf_ok, hok]; rfl⟩
            have HR : Aside0 (fillOf k ws = none) := ⟨by rw [HFO.out]; unfold fillRest; simp only; rw [HNS.out]; simp only [Option.bind_some]; rw [← HY.out, if_neg (by rw [hok]; decide)]⟩
            clear hok
            go_wp2_with (first
              | (refine wpList_load_row rfl 24 (.tmp 100) rfl g rfl 24 (evC x (.slice Au ns.length cu)) (0, 0) _ BG.out Tryd.underlying24 rfl (by kernel_rfl) ?_)
              | (go_at_call 10; refine (chk_any ⟨x.f0, x.f1, x.f2, x.f3, x.f4, x.f5, x.f6, ns⟩ Au cu _ HC.out HCU.out).mono ?_; rw [HCK.out]; rintro e w5 ⟨rfl, hb⟩; have NB := Aside0.mk hb; clear hb))
            go_ret
            rw [HR.out]
            exact ⟨rfl, ⟨_, _, _, _, blk_below BG.out NB.out⟩, FRX.out.trans (Fr.of_below (NB.out.mono FRX.out.size))⟩
set_option maxRecDepth 100000 in
set_option maxHeartbeats 16000000 in
theorem fill_c1 (k : Nat) (h1 : 1 ≤ k) (h2 : k ≤ 11) (hc : clsK k = 1) (g : Nat) (AF A2 : Option Addr) (c2 : Nat) (ws : List ByteArray) (w w0 : World) (hL : LW w0) (hB0 : Below w0.heap.size w0 w) (hg0 : w0.heap.size ≤ g) (hg : w.heap[g]? = some (.cells (evC ⟨k, 0, 0, 0, 0, 0, 0, []⟩ (.slice none 0 0)) 24 (0, 0)))
    (hF : ∀ (j o : Nat), (foK k)[j]? = some o → ∃ ad, AF = some ad ∧ ad.block ≠ g ∧ w.cell? (ad.add j) = some (.pointer (some ⟨g, o, none⟩))) (hws : WordsIn w g A2 ws) (hcap : ws.length ≤ c2) (hlen : ws.length ≤ 4294967296) (hsz : ∀ t ∈ ws, t.size ≤ 281474976710656) :
    Calls Tryd.prog 49 #[.pointer (some ⟨g, 0, none⟩), .agg #[.string (wordB k), .slice AF (foK k).length (foK k).length, .pointer (some ⟨g, 6, none⟩), .slice none 0 0, .pointer none, .bool false], .slice A2 ws.length c2] w (FillSays w g (fillOf k ws)) := by
  have hu24 := Tryd.underlying24
  have hu48 := Tryd.underlying48
  have hu46 := Tryd.underlying46
  have HL := Aside0.mk hL
  have HB0 := Aside0.mk hB0
  have HG0 := Aside0.mk hg0
  have HCL := Aside0.mk hc
  have HLEN := Aside0.mk hlen
  have HSZ := Aside0.mk hsz
  have hfl := fo_len k
  have GW := Aside0.mk (blk_lt hg)
  have BG0 := Aside0.mk (blk_below hg (bel1 w (.cells #[.string (wordB k), .slice AF (foK k).length (foK k).length, .pointer (some ⟨g, 6, none⟩), .slice none 0 0, .pointer none, .bool false] 48)))
  have FF0 := Aside0.mk (fun j o hj => by obtain ⟨ad, e1, e2, e3⟩ := hF j o hj; exact ⟨ad, e1, e2, pw_cell_below (bel1 w (.cells #[.string (wordB k), .slice AF (foK k).length (foK k).length, .pointer (some ⟨g, 6, none⟩), .slice none 0 0, .pointer none, .bool false] 48)) e3⟩ : ∀ (j o : Nat), (foK k)[j]? = some o → ∃ ad, AF = some ad ∧ ad.block ≠ g ∧ (w.alloc (.cells #[.string (wordB k), .slice AF (foK k).length (foK k).length, .pointer (some ⟨g, 6, none⟩), .slice none 0 0, .pointer none, .bool false] 48)).cell? (ad.add j) = some (.pointer (some ⟨g, o, none⟩)))
  have WS0 := Aside0.mk (hws.below (bel1 w (.cells #[.string (wordB k), .slice AF (foK k).length (foK k).length, .pointer (some ⟨g, 6, none⟩), .slice none 0 0, .pointer none, .bool false] 48)))
  have BF0 := Aside0.mk (heap_alloc_new w (.cells #[.string (wordB k), .slice AF (foK k).length (foK k).length, .pointer (some ⟨g, 6, none⟩), .slice none 0 0, .pointer none, .bool false] 48))
  have NF := Aside0.mk (show w.heap.size ≠ g from Nat.ne_of_gt (blk_lt hg))
  have HZ := Aside0.mk (bel1 w (.cells #[.string (wordB k), .slice AF (foK k).length (foK k).length, .pointer (some ⟨g, 6, none⟩), .slice none 0 0, .pointer none, .bool false] 48))
  have GZ := Aside0.mk (show g < (w.alloc (.cells #[.string (wordB k), .slice AF (foK k).length (foK k).length, .pointer (some ⟨g, 6, none⟩), .slice none 0 0, .pointer none, .bool false] 48)).heap.size by have := blk_lt hg; rw [size_alloc]; omega)
  have HCAP := Aside0.mk hcap
  clear hL hB0 hg0 hc hlen hsz hg hF hws hcap
  go_enter Tryd.func49, Tryd.ntmps49
  go_upto_region 2 with (fail)
  generalize w.heap.size = g4 at BF0 NF ⊢
  generalize w.alloc (.cells #[.string (wordB k), .slice AF (foK k).length (foK k).length, .pointer (some ⟨g, 6, none⟩), .slice none 0 0, .pointer none, .bool false] 48) = wz at *
  have y1 : wz.cell? ⟨g4, 1, none⟩ = some (.slice AF (foK k).length (foK k).length) := (blk_cell BF0.out 1).trans rfl
  have y2 : wz.cell? ⟨g4, 2, none⟩ = some (.pointer (some ⟨g, 6, none⟩)) := (blk_cell BF0.out 2).trans rfl
  have KC := Aside0.mk (kp_C (by omega) FF0.out)
  obtain ⟨v0, hv0⟩ : ∃ v, v = Value.slice none 0 0 := ⟨_, rfl⟩
  rw [← hv0]
  have HV0 : Aside0 (Kd.R (kp g) 45 wz wz.heap.size (fun _ => True) v0 []) := ⟨by rw [hv0]; exact Kd.R_nil _ _ _ _ _⟩
  clear hv0
  go_wp2_with (first
    | ((with_reducible refine gate_builtin (b := .append) (xs := #[.tmp 16, .tmp 18]) rfl ?_); at_builtin; refine Kd.R_append_rows (kp g) (w0 := wz) wz.heap.size rfl (.tmp 16) (.tmp 18) 44 45 (.pointer none) 8 rfl Tryd.underlying44 info45 rfl Nat.one_pos (by omega) v0 ([] : List Nat) (foK k) AF (foK k).length (foK k).length (fun _ => True) (fun _ => False) rfl rfl HV0.out KC.out (fun _ _ h => h) (fun _ h => h.elim) (fun _ _ => trivial) (Below.refl _ _) (Nat.le_refl _) (by simp only [List.length_nil]; omega) ?_; intro v7 wl ho hb _ _; obtain ⟨Av, cv, rfl⟩ := Kd.R_slice ho; have HO := Aside0.mk ho; have HB1 := Aside0.mk hb; clear ho hb; have z2 : wl.cell? ⟨g4, 2, none⟩ = some (.pointer (some ⟨g, 6, none⟩)) := cell_keep BF0.out HB1.out rfl)
    | ((with_reducible refine gate_builtin (b := .append) (xs := #[.tmp 23, .tmp 26]) rfl ?_); at_builtin; refine Kd.R_append (kp g) (w0 := wz) wz.heap.size rfl (.tmp 23) (.tmp 26) 44 45 (.pointer none) 8 rfl Tryd.underlying44 info45 rfl Nat.one_pos (by omega) (.slice Av ([] ++ foK k).length cv) ([] ++ foK k) 6 [.pointer (some ⟨g, 6, none⟩)] (fun _ => True) (fun _ => False) rfl rfl rfl (fun _ h => h.elim) (fun _ _ => trivial) HO.out HB1.out HB1.out.size (by simp only [List.nil_append]; omega) ?_; intro v8 wm ho hb _ _; obtain ⟨Ax, cx, rfl⟩ := Kd.R_slice ho; have HO2 := Aside0.mk ho; have HB2 := Aside0.mk hb; clear ho hb HO HB1; have HO := HO2; have HB1 := HB2; clear HO2 HB2))
  have HAT : Aside0 (Kd.R (kp g) 45 wm wz.heap.size (fun _ => True) (.slice Ax ([] ++ foK k ++ [6]).length cx) (atK k)) := ⟨by have h := HO.out; rw [show atK k = [] ++ foK k ++ [6] by unfold atK; rw [HCL.out]; simp]; exact h⟩
  obtain ⟨Aa, ca, hva, hat⟩ := kp_at HAT.out GZ.out
  have hvl : ((foK k).length + 1) = (atK k).length := by rw [show atK k = [] ++ foK k ++ [6] by unfold atK; rw [HCL.out]; simp]; simp
  have hvm : ([] ++ foK k ++ [6]).length = (atK k).length := by rw [show atK k = [] ++ foK k ++ [6] by unfold atK; rw [HCL.out]; simp]
  rw [hvm] at hva
  rw [hvl]
  (try rw [show ((foK k).length : Int) + 1 = ((atK k).length : Int) by omega])
  injection hva with hva1 _ hva3
  subst hva1 hva3
  clear hvm
  clear hvl
  have AT := Aside0.mk hat
  have HWL := Aside0.mk (HZ.out.trans (HB1.out.mono HZ.out.size))
  have BG := Aside0.mk (blk_below BG0.out HB1.out)
  have BF := Aside0.mk (blk_below BF0.out HB1.out)
  have WS := Aside0.mk (WS0.out.below HB1.out)
  have GL := Aside0.mk (blk_lt BG.out)
  have hal := at_len k
  clear hat HO HAT HV0 BG0 BF0 WS0 FF0 KC HB1 HZ y1 y2 z2
  go_loopw [2, 30] (fun v2 i wr => ∃ (a : Nat) (Aw : Option Addr) (cw : Nat) (us : List ByteArray) (x : S24), i = .int .i64 a ∧ a ≤ (atK k).length ∧ v2 = .slice Aw us.length cw ∧ us.length ≤ cw ∧ Aside0 (WordsIn wr g Aw us) ∧ Aside0 (us.length ≤ ws.length ∧ ∀ t ∈ us, t ∈ ws) ∧ Aside0 (fillNums (atK k) ws ⟨k, 0, 0, 0, 0, 0, 0, []⟩ = fillNums ((atK k).drop a) us x) ∧ Aside0 (x.f0 = k ∧ x.f7 = []) ∧ Aside0 (wr.heap[g]? = some (.cells (evC x (.slice none 0 0)) 24 (0, 0))) ∧ Aside0 (Fr wm.heap.size g wm wr)) (fun _ i _ => (atK k).length - (intOf i).toNat)
  case atStart => exact ⟨0, A2, c2, ws, _, rfl, by omega, rfl, HCAP.out, WS, ⟨Nat.le_refl _, fun _ h => h⟩, ⟨rfl⟩, ⟨rfl, rfl⟩, BG, ⟨⟨rfl, rfl, rfl, Nat.le_refl _, fun _ _ _ => rfl⟩⟩⟩
  case round =>
    clear BG WS
    obtain ⟨a, Aw, cw, us, x, rfl, ha, rfl, hcw, WS, US, HF, HX, BG, FR⟩ := hrel
    have hlm : us.length ≤ 4294967296 := Nat.le_trans US.out.1 HLEN.out
    by_cases hlt : a < (atK k).length
    · obtain ⟨o, ho⟩ : ∃ o, (atK k)[a]? = some o := ⟨_, List.getElem?_eq_getElem hlt⟩
      obtain ⟨ad1, hA1, hn1, hc1⟩ := AT.out a o ho
      subst hA1
      have HO6 := Aside0.mk (at_le k o (List.mem_of_getElem? ho))
      have HDR : Aside0 ((atK k).drop a = o :: (atK k).drop (a + 1)) := ⟨by obtain ⟨hl, rfl⟩ := List.getElem?_eq_some_iff.1 ho; exact List.drop_eq_getElem_cons hl⟩
      have x1 : wr.cell? (ad1.add a) = some (.pointer (some ⟨g, o, none⟩)) := FR.out.cell hc1 (Nat.le_refl _) (by rw [add_block]; exact hn1)
      have x2 : wr.cell? ⟨g, o, none⟩ = some (.int .i64 (getK x o)) := (blk_cell BG.out o).trans (ev_get x _ o HO6.out.1 HO6.out.2)
      clear hc1 hn1 ho
      cases us with
      | nil =>
        have HR : Aside0 (fillOf k ws = none) := ⟨by unfold fillOf; rw [HF.out, HDR.out]; rfl⟩
        simp only [List.length_nil] at hcw ⊢
        go_wp2_with (fail)
        go_ret
        rw [HR.out]
        exact ⟨rfl, ⟨_, _, _, _, BG.out⟩, (Fr.of_below HWL.out).trans (FR.out.mono HWL.out.size)⟩
      | cons t r =>
        simp only [List.length_cons] at hcw hlm ⊢
        obtain ⟨ad2, hA2, hw2⟩ := WS.out.2 0 t rfl
        subst hA2
        have x3 : wr.cell? ad2 = some (.string t) := hw2
        have HTS := Aside0.mk (HSZ.out t (US.out.2 t (List.mem_cons_self ..)))
        have FRW := Aside0.mk ((Fr.of_below HWL.out).trans (FR.out.mono HWL.out.size))
        have HLW : Aside0 (LW wr) := ⟨HL.out.below (HB0.out.trans (FRW.out.below HB0.out.size HG0.out))⟩
        cases hn : numOf t with
        | none =>
          have HN := Aside0.mk hn
          have HR : Aside0 (fillOf k ws = none) := ⟨by unfold fillOf; rw [HF.out, HDR.out, fillNums, HN.out]; rfl⟩
          clear hn
          go_wp2_with (go_at_call 58; refine (number_no t HN.out _ HLW.out HTS.out).mono ?_; rintro e w3 ⟨⟨v3, rfl⟩, hb⟩; have NB := Aside0.mk hb; clear hb)
          go_ret
          rw [HR.out]
          exact ⟨rfl, ⟨_, _, _, _, blk_below BG.out NB.out⟩, FRW.out.trans (Fr.of_below (NB.out.mono FRW.out.size))⟩
        | some n =>
          have HN := Aside0.mk hn
          have HF2 : Aside0 (fillNums (atK k) ws ⟨k, 0, 0, 0, 0, 0, 0, []⟩ = fillNums ((atK k).drop (a + 1)) r (setK x n o)) := ⟨by rw [HF.out, HDR.out, fillNums, HN.out]⟩
          have HX2 : Aside0 ((setK x n o).f0 = k ∧ (setK x n o).f7 = []) := ⟨by rw [setK_f0, setK_f7]; exact HX.out⟩
          obtain ⟨A3, hsl, hw3⟩ := words_tail WS.out cw (by omega)
          have WS3 := Aside0.mk hw3
          have US2 : Aside0 (r.length ≤ ws.length ∧ ∀ t ∈ r, t ∈ ws) := ⟨by have h1 := US.out.1; have h2 := US.out.2; simp only [List.length_cons] at h1; exact ⟨by omega, fun q hq => h2 q (List.mem_cons_of_mem _ hq)⟩⟩
          have hcw3 : r.length ≤ cw - 1 := by omega
          have HCW3 := Aside0.mk hcw3
          clear hn hw3 hcw3
          go_wp2_with (go_at_call 58; refine (number_yes t n HN.out _ HLW.out HTS.out).mono ?_; rintro e w3 ⟨rfl, hb⟩; have NB := Aside0.mk hb; clear hb; have BG3 := Aside0.mk (blk_below BG.out NB.out); have x4 : w3.cell? ⟨g, o, none⟩ = some (.int .i64 (getK x o)) := (blk_cell BG3.out o).trans (ev_get x _ o HO6.out.1 HO6.out.2); have x5 : w3.frozen? ⟨g, o, none⟩ = false := Lib.frozen_of_heap BG3.out o)
          have FR3 := Aside0.mk (fr_set (FR.out.trans (Fr.of_below (NB.out.mono FR.out.size))) o (.int .i64 n))
          have BG4 : Aside0 ((w3.setCell ⟨g, o, none⟩ (.int .i64 n)).heap[g]? = some (.cells (evC (setK x n o) (.slice none 0 0)) 24 (0, 0))) := ⟨blk_put BG3.out o _ (setK_cells x _ n o HO6.out.1 HO6.out.2)⟩
          have WS4 := Aside0.mk ((WS3.out.below NB.out).fr (base := w3.heap.size) (w' := w3.setCell ⟨g, o, none⟩ (.int .i64 n)) (fr_set ⟨rfl, rfl, rfl, Nat.le_refl _, fun _ _ _ => rfl⟩ o _) (Nat.le_refl _))
          go_roundw
          case rel => exact ⟨a + 1, A3, cw - 1, r, setK x n o, by go_num, by omega, rfl, HCW3.out, WS4, US2, HF2, HX2, BG4, FR3⟩
          case measure => simp [intOf]; omega
    · obtain rfl : a = (atK k).length := by omega
      have HF2 : Aside0 (fillNums (atK k) ws ⟨k, 0, 0, 0, 0, 0, 0, []⟩ = some (x, us)) := ⟨by rw [HF.out, List.drop_length]; rfl⟩
      have FRW := Aside0.mk ((Fr.of_below HWL.out).trans (FR.out.mono HWL.out.size))
      have z3 : wr.cell? ⟨g4, 3, none⟩ = some (.slice none 0 0) := (blk_cell (FR.out.blk BF.out (Nat.le_refl _) NF.out) 3).trans rfl
      clear HF ha hlt
      have HFO : Aside0 (fillOf k ws = fillRest (x, us)) := ⟨by unfold fillOf; rw [HF2.out]; simp only [Option.bind_some]; rw [show fillWord k (x, us) = some (x, us) by unfold fillWord; rw [HCL.out]; rfl]; rfl⟩
      go_wp2_with (fail)
      obtain ⟨wl2, rfl⟩ : ∃ wl2 : World, wl2 = wr := ⟨_, rfl⟩
      clear z3 HF2
      have UL : Aside0 (us.length ≤ 4294967296) := ⟨Nat.le_trans US.out.1 HLEN.out⟩
      have GL2 := Aside0.mk (blk_lt BG.out)
      go_loopw [77] (fun i wr => ∃ (a : Nat) (ns : List Int) (un : Value), i = .int .i64 a ∧ a ≤ us.length ∧ Aside0 (numsIn us = (numsIn (us.drop a)).map (ns ++ ·)) ∧ Aside0 (ns.length = a) ∧ Aside0 (wr.heap[g]? = some (.cells (evC x un) 24 (0, 0))) ∧ Aside0 (Kd.R (Kd.int .i64) 3 wr wl2.heap.size (fun k => wl2.heap.size ≤ k) un ns) ∧ Aside0 (Fr wl2.heap.size g wl2 wr)) (fun i _ => us.length - (intOf i).toNat)
      case atStart => exact ⟨0, [], _, rfl, by omega, ⟨by rw [List.drop_zero]; cases numsIn us <;> simp⟩, ⟨rfl⟩, BG, ⟨Kd.R_nil _ _ _ _ _⟩, ⟨⟨rfl, rfl, rfl, Nat.le_refl _, fun _ _ _ => rfl⟩⟩⟩
      case round =>
        clear BG
        obtain ⟨a, ns, un, rfl, ha, HN, HNL, BG, HO, FR2⟩ := hrel
        have hul := UL.out
        have FRX := Aside0.mk (FRW.out.trans (FR2.out.mono FRW.out.size))
        obtain ⟨Au, cu, rfl⟩ := Kd.R_slice HO.out
        by_cases hlt : a < us.length
        · obtain ⟨t, ht⟩ : ∃ t, us[a]? = some t := ⟨_, List.getElem?_eq_getElem hlt⟩
          obtain ⟨adw, hAw, hcw⟩ := WS.out.2 a t ht
          have had := WS.out.1 adw hAw
          subst hAw
          have x1 : wr.cell? (adw.add a) = some (.string t) := FR2.out.cell hcw (Nat.le_refl _) (by rw [add_block]; exact had)
          have HTS := Aside0.mk (HSZ.out t (US.out.2 t (List.mem_of_getElem? ht)))
          have HLW : Aside0 (LW wr) := ⟨HL.out.below (HB0.out.trans (FRX.out.below HB0.out.size HG0.out))⟩
          have HDR := Aside0.mk (nums_some ht)
          clear hcw had ht
          cases hn : numOf t with
          | none =>
            have HNN := Aside0.mk hn
            have HR : Aside0 (fillOf k ws = none) := ⟨by rw [HFO.out]; unfold fillRest; simp only; rw [HN.out, HDR.out, numsIn, HNN.out]; rfl⟩
            clear hn
            go_wp2_with (go_at_call 58; refine (number_no t HNN.out _ HLW.out HTS.out).mono ?_; rintro e w3 ⟨⟨v3, rfl⟩, hb⟩; have NB := Aside0.mk hb; clear hb)
            go_ret
            rw [HR.out]
            exact ⟨rfl, ⟨_, _, _, _, blk_below BG.out NB.out⟩, FRX.out.trans (Fr.of_below (NB.out.mono FRX.out.size))⟩
          | some n =>
            have HNN := Aside0.mk hn
            have HN2 : Aside0 (numsIn us = (numsIn (us.drop (a + 1))).map ((ns ++ [n]) ++ ·)) := ⟨by rw [HN.out, HDR.out, numsIn, HNN.out]; cases numsIn (us.drop (a + 1)) <;> simp⟩
            have HTL : Aside0 ((ns.length + 1) * 8 ≤ 140737488355328) := ⟨by rw [HNL.out]; omega⟩
            clear hn
            go_wp2_with (first
              | (go_at_call 58; refine (number_yes t n HNN.out _ HLW.out HTS.out).mono ?_; rintro e w3 ⟨rfl, hb⟩; have NB := Aside0.mk hb; clear hb; have BG3 := Aside0.mk (blk_below BG.out NB.out); have HO3 := Aside0.mk (Kd.R_below HO.out NB.out); have x7 : w3.cell? ⟨g, 7, none⟩ = some (.slice Au ns.length cu) := (blk_cell BG3.out 7).trans rfl)
              | ((with_reducible refine gate_builtin (b := .append) (xs := #[.tmp 92, .tmp 94]) rfl ?_); at_builtin; refine Kd.R_append (Kd.int .i64) (w0 := w3) wl2.heap.size rfl (.tmp 92) (.tmp 94) 22 3 (.int .i64 0) 8 rfl Tryd.underlying22 info3 rfl (by decide) (by omega) (.slice Au ns.length cu) ns n [.int .i64 n] (fun k => wl2.heap.size ≤ k) (fun _ => False) rfl rfl rfl (fun _ h => h.elim) (fun k hk => Nat.le_trans (Nat.le_trans FR2.out.size NB.out.size) hk) HO3.out (Below.refl _ _) (Nat.le_trans FR2.out.size NB.out.size) HTL.out ?_; intro v4 w4 ho hb _ _; obtain ⟨Av, cv, rfl⟩ := Kd.R_slice ho; have HO4 := Aside0.mk ho; have NB4 := Aside0.mk hb; clear ho hb; have BG4 : Aside0 (w4.heap[g]? = some (.cells (evC x (.slice Au ns.length cu)) 24 (0, 0))) := ⟨(NB4.out.block g GL2.out).trans BG3.out⟩; have x8 : w4.cell? ⟨g, 7, none⟩ = some (.slice Au ns.length cu) := (blk_cell BG4.out 7).trans rfl; have x9 : w4.frozen? ⟨g, 7, none⟩ = false := Lib.frozen_of_heap BG4.out 7))
            have HO5 : Aside0 (Kd.R (Kd.int .i64) 3 (w4.setCell ⟨g, 7, none⟩ (.slice Av (ns ++ [n]).length cv)) wl2.heap.size (fun k => wl2.heap.size ≤ k) (.slice Av (ns ++ [n]).length cv) (ns ++ [n])) := ⟨Kd.R_far HO4.out (fun k hk => Nat.ne_of_gt (Nat.lt_of_lt_of_le GL2.out hk)) _⟩
            have BG5 : Aside0 ((w4.setCell ⟨g, 7, none⟩ (.slice Av (ns ++ [n]).length cv)).heap[g]? = some (.cells (evC x (.slice Av (ns ++ [n]).length cv)) 24 (0, 0))) := ⟨blk_put BG4.out 7 _ rfl⟩
            have FR5 := Aside0.mk (fr_set ((FR2.out.trans (Fr.of_below (NB.out.mono FR2.out.size))).trans (Fr.of_below NB4.out)) 7 (.slice Av (ns ++ [n]).length cv))
            simp only [List.length_append, List.length_cons, List.length_nil, Nat.zero_add] at HO5 BG5 FR5
            go_roundw
            case rel => exact ⟨a + 1, ns ++ [n], _, by go_num, by omega, HN2, ⟨by rw [List.length_append, HNL.out]; rfl⟩, BG5, HO5, FR5⟩
            case measure => simp [intOf]; omega
        · obtain rfl : a = us.length := by omega
          have HNS : Aside0 (numsIn us = some ns) := ⟨by rw [HN.out, List.drop_length]; simp [numsIn]⟩
          obtain ⟨_, hcu, hC⟩ := Kd.R_reads' HO.out
          have HC := Aside0.mk hC
          have HCU := Aside0.mk hcu
          obtain ⟨y, hy⟩ : ∃ y : S24, y = ⟨x.f0, x.f1, x.f2, x.f3, x.f4, x.f5, x.f6, ns⟩ := ⟨_, rfl⟩
          have HY := Aside0.mk hy
          clear hC hcu hy hlt ha
          cases hok : okX y with
          | true =>
            have HCK : Aside0 (checkOf ⟨x.f0, x.f1, x.f2, x.f3, x.f4, x.f5, x.f6, ns⟩ = 0) := ⟨by rw [← HY.out, checkOf_ok, hok]; rfl⟩
            have HR : Aside0 (fillOf k ws = some y) := ⟨by rw [HFO.out]; unfold fillRest; simp only; rw [HNS.out]; simp only [Option.bind_some]; rw [← HY.out, if_pos hok]⟩
            clear hok
            go_wp2_with (first
              | (refine wpList_load_row rfl 24 (.tmp 100) rfl g rfl 24 (evC x (.slice Au ns.length cu)) (0, 0) _ BG.out Tryd.underlying24 rfl (by kernel_rfl) ?_)
              | (go_at_call 10; refine (chk_any ⟨x.f0, x.f1, x.f2, x.f3, x.f4, x.f5, x.f6, ns⟩ Au cu _ HC.out HCU.out).mono ?_; rw [HCK.out]; rintro e w5 ⟨rfl, hb⟩; have NB := Aside0.mk hb; clear hb))
            go_ret
            rw [HR.out]
            exact ⟨rfl, ⟨_, by rw [HY.out]; exact blk_below BG.out NB.out, by rw [HY.out]; exact Kd.R_mono (Kd.R_lower (Kd.R_below HO.out NB.out) FRW.out.size) (fun k hk => Nat.le_trans FRW.out.size hk)⟩, FRX.out.trans (Fr.of_below (NB.out.mono FRX.out.size))⟩
          | false =>
            have HCK : Aside0 (checkOf ⟨x.f0, x.f1, x.f2, x.f3, x.f4, x.f5, x.f6, ns⟩ = 180) := ⟨by rw [← HY.out, checkOf_ok, hok]; rfl⟩
            have HR : Aside0 (fillOf k ws = none) := ⟨by rw [HFO.out]; unfold fillRest; simp only; rw [HNS.out]; simp only [Option.bind_some]; rw [← HY.out, if_neg (by rw [hok]; decide)]⟩
            clear hok
            go_wp2_with (first
              | (refine wpList_load_row rfl 24 (.tmp 100) rfl g rfl 24 (evC x (.slice Au ns.length cu)) (0, 0) _ BG.out Tryd.underlying24 rfl (by kernel_rfl) ?_)
              | (go_at_call 10; refine (chk_any ⟨x.f0, x.f1, x.f2, x.f3, x.f4, x.f5, x.f6, ns⟩ Au cu _ HC.out HCU.out).mono ?_; rw [HCK.out]; rintro e w5 ⟨rfl, hb⟩; have NB := Aside0.mk hb; clear hb))
            go_ret
            rw [HR.out]
            exact ⟨rfl, ⟨_, _, _, _, blk_below BG.out NB.out⟩, FRX.out.trans (Fr.of_below (NB.out.mono FRX.out.size))⟩
set_option maxRecDepth 100000 in
set_option maxHeartbeats 16000000 in
theorem fill_c2 (k : Nat) (h1 : 1 ≤ k) (h2 : k ≤ 11) (hc : clsK k = 2) (g : Nat) (AF A2 : Option Addr) (c2 : Nat) (bW : Nat) (ws : List ByteArray) (w w0 : World) (hL : LW w0) (hB0 : Below w0.heap.size w0 w) (hg0 : w0.heap.size ≤ g) (hg : w.heap[g]? = some (.cells (evC ⟨k, 0, 0, 0, 0, 0, 0, []⟩ (.slice none 0 0)) 24 (0, 0)))
    (hF : ∀ (j o : Nat), (foK k)[j]? = some o → ∃ ad, AF = some ad ∧ ad.block ≠ g ∧ w.cell? (ad.add j) = some (.pointer (some ⟨g, o, none⟩))) (hW : w.heap[bW]? = some (.cells ((wsK k).map Value.string).toArray 9 (0, 0))) (hWg : bW ≠ g) (hws : WordsIn w g A2 ws) (hcap : ws.length ≤ c2) (hlen : ws.length ≤ 4294967296) (hsz : ∀ t ∈ ws, t.size ≤ 281474976710656) :
    Calls Tryd.prog 49 #[.pointer (some ⟨g, 0, none⟩), .agg #[.string (wordB k), .slice AF (foK k).length (foK k).length, .pointer none, .slice (some ⟨bW, 0, none⟩) (wsK k).length (wsK k).length, .pointer (some ⟨g, 6, none⟩), .bool false], .slice A2 ws.length c2] w (FillSays w g (fillOf k ws)) := by
  have hu24 := Tryd.underlying24
  have hu48 := Tryd.underlying48
  have hu46 := Tryd.underlying46
  have HL := Aside0.mk hL
  have HB0 := Aside0.mk hB0
  have HG0 := Aside0.mk hg0
  have HCL := Aside0.mk hc
  have HLEN := Aside0.mk hlen
  have HSZ := Aside0.mk hsz
  have hfl := fo_len k
  have GW := Aside0.mk (blk_lt hg)
  have BG0 := Aside0.mk (blk_below hg (bel1 w (.cells #[.string (wordB k), .slice AF (foK k).length (foK k).length, .pointer none, .slice (some ⟨bW, 0, none⟩) (wsK k).length (wsK k).length, .pointer (some ⟨g, 6, none⟩), .bool false] 48)))
  have FF0 := Aside0.mk (fun j o hj => by obtain ⟨ad, e1, e2, e3⟩ := hF j o hj; exact ⟨ad, e1, e2, pw_cell_below (bel1 w (.cells #[.string (wordB k), .slice AF (foK k).length (foK k).length, .pointer none, .slice (some ⟨bW, 0, none⟩) (wsK k).length (wsK k).length, .pointer (some ⟨g, 6, none⟩), .bool false] 48)) e3⟩ : ∀ (j o : Nat), (foK k)[j]? = some o → ∃ ad, AF = some ad ∧ ad.block ≠ g ∧ (w.alloc (.cells #[.string (wordB k), .slice AF (foK k).length (foK k).length, .pointer none, .slice (some ⟨bW, 0, none⟩) (wsK k).length (wsK k).length, .pointer (some ⟨g, 6, none⟩), .bool false] 48)).cell? (ad.add j) = some (.pointer (some ⟨g, o, none⟩)))
  have WS0 := Aside0.mk (hws.below (bel1 w (.cells #[.string (wordB k), .slice AF (foK k).length (foK k).length, .pointer none, .slice (some ⟨bW, 0, none⟩) (wsK k).length (wsK k).length, .pointer (some ⟨g, 6, none⟩), .bool false] 48)))
  have BW0 := Aside0.mk (blk_below hW (bel1 w (.cells #[.string (wordB k), .slice AF (foK k).length (foK k).length, .pointer none, .slice (some ⟨bW, 0, none⟩) (wsK k).length (wsK k).length, .pointer (some ⟨g, 6, none⟩), .bool false] 48)))
  have NW := Aside0.mk hWg
  clear hW hWg
  have BF0 := Aside0.mk (heap_alloc_new w (.cells #[.string (wordB k), .slice AF (foK k).length (foK k).length, .pointer none, .slice (some ⟨bW, 0, none⟩) (wsK k).length (wsK k).length, .pointer (some ⟨g, 6, none⟩), .bool false] 48))
  have NF := Aside0.mk (show w.heap.size ≠ g from Nat.ne_of_gt (blk_lt hg))
  have HZ := Aside0.mk (bel1 w (.cells #[.string (wordB k), .slice AF (foK k).length (foK k).length, .pointer none, .slice (some ⟨bW, 0, none⟩) (wsK k).length (wsK k).length, .pointer (some ⟨g, 6, none⟩), .bool false] 48))
  have GZ := Aside0.mk (show g < (w.alloc (.cells #[.string (wordB k), .slice AF (foK k).length (foK k).length, .pointer none, .slice (some ⟨bW, 0, none⟩) (wsK k).length (wsK k).length, .pointer (some ⟨g, 6, none⟩), .bool false] 48)).heap.size by have := blk_lt hg; rw [size_alloc]; omega)
  have HCAP := Aside0.mk hcap
  clear hL hB0 hg0 hc hlen hsz hg hF hws hcap
  go_enter Tryd.func49, Tryd.ntmps49
  go_upto_region 2 with (fail)
  generalize w.heap.size = g4 at BF0 NF ⊢
  generalize w.alloc (.cells #[.string (wordB k), .slice AF (foK k).length (foK k).length, .pointer none, .slice (some ⟨bW, 0, none⟩) (wsK k).length (wsK k).length, .pointer (some ⟨g, 6, none⟩), .bool false] 48) = wz at *
  have y1 : wz.cell? ⟨g4, 1, none⟩ = some (.slice AF (foK k).length (foK k).length) := (blk_cell BF0.out 1).trans rfl
  have y2 : wz.cell? ⟨g4, 2, none⟩ = some (.pointer none) := (blk_cell BF0.out 2).trans rfl
  have KC := Aside0.mk (kp_C (by omega) FF0.out)
  obtain ⟨v0, hv0⟩ : ∃ v, v = Value.slice none 0 0 := ⟨_, rfl⟩
  rw [← hv0]
  have HV0 : Aside0 (Kd.R (kp g) 45 wz wz.heap.size (fun _ => True) v0 []) := ⟨by rw [hv0]; exact Kd.R_nil _ _ _ _ _⟩
  clear hv0
  go_wp2_with (first
    | ((with_reducible refine gate_builtin (b := .append) (xs := #[.tmp 16, .tmp 18]) rfl ?_); at_builtin; refine Kd.R_append_rows (kp g) (w0 := wz) wz.heap.size rfl (.tmp 16) (.tmp 18) 44 45 (.pointer none) 8 rfl Tryd.underlying44 info45 rfl Nat.one_pos (by omega) v0 ([] : List Nat) (foK k) AF (foK k).length (foK k).length (fun _ => True) (fun _ => False) rfl rfl HV0.out KC.out (fun _ _ h => h) (fun _ h => h.elim) (fun _ _ => trivial) (Below.refl _ _) (Nat.le_refl _) (by simp only [List.length_nil]; omega) ?_; intro v7 wl ho hb _ _; obtain ⟨Av, cv, rfl⟩ := Kd.R_slice ho; have HO := Aside0.mk ho; have HB1 := Aside0.mk hb; clear ho hb; have z2 : wl.cell? ⟨g4, 2, none⟩ = some (.pointer none) := cell_keep BF0.out HB1.out rfl))
  have HAT : Aside0 (Kd.R (kp g) 45 wl wz.heap.size (fun _ => True) (.slice Av ([] ++ foK k).length cv) (atK k)) := ⟨by have h := HO.out; rw [show atK k = [] ++ foK k by unfold atK; rw [HCL.out]; simp]; exact h⟩
  obtain ⟨Aa, ca, hva, hat⟩ := kp_at HAT.out GZ.out
  have hvl : (foK k).length = (atK k).length := by rw [show atK k = [] ++ foK k by unfold atK; rw [HCL.out]; simp]; simp
  have hvm : ([] ++ foK k).length = (atK k).length := by rw [show atK k = [] ++ foK k by unfold atK; rw [HCL.out]; simp]
  rw [hvm] at hva
  rw [hvl]
  (try rw [show ((foK k).length : Int) + 1 = ((atK k).length : Int) by omega])
  injection hva with hva1 _ hva3
  subst hva1 hva3
  clear hvm
  clear hvl
  have AT := Aside0.mk hat
  have HWL := Aside0.mk (HZ.out.trans (HB1.out.mono HZ.out.size))
  have BG := Aside0.mk (blk_below BG0.out HB1.out)
  have BF := Aside0.mk (blk_below BF0.out HB1.out)
  have WS := Aside0.mk (WS0.out.below HB1.out)
  have GL := Aside0.mk (blk_lt BG.out)
  have hal := at_len k
  have BW := Aside0.mk (blk_below BW0.out HB1.out)
  clear BW0
  clear hat HO HAT HV0 BG0 BF0 WS0 FF0 KC HB1 HZ y1 y2 z2
  go_loopw [2, 30] (fun v2 i wr => ∃ (a : Nat) (Aw : Option Addr) (cw : Nat) (us : List ByteArray) (x : S24), i = .int .i64 a ∧ a ≤ (atK k).length ∧ v2 = .slice Aw us.length cw ∧ us.length ≤ cw ∧ Aside0 (WordsIn wr g Aw us) ∧ Aside0 (us.length ≤ ws.length ∧ ∀ t ∈ us, t ∈ ws) ∧ Aside0 (fillNums (atK k) ws ⟨k, 0, 0, 0, 0, 0, 0, []⟩ = fillNums ((atK k).drop a) us x) ∧ Aside0 (x.f0 = k ∧ x.f7 = []) ∧ Aside0 (wr.heap[g]? = some (.cells (evC x (.slice none 0 0)) 24 (0, 0))) ∧ Aside0 (Fr wl.heap.size g wl wr)) (fun _ i _ => (atK k).length - (intOf i).toNat)
  case atStart => exact ⟨0, A2, c2, ws, _, rfl, by omega, rfl, HCAP.out, WS, ⟨Nat.le_refl _, fun _ h => h⟩, ⟨rfl⟩, ⟨rfl, rfl⟩, BG, ⟨⟨rfl, rfl, rfl, Nat.le_refl _, fun _ _ _ => rfl⟩⟩⟩
  case round =>
    clear BG WS
    obtain ⟨a, Aw, cw, us, x, rfl, ha, rfl, hcw, WS, US, HF, HX, BG, FR⟩ := hrel
    have hlm : us.length ≤ 4294967296 := Nat.le_trans US.out.1 HLEN.out
    by_cases hlt : a < (atK k).length
    · obtain ⟨o, ho⟩ : ∃ o, (atK k)[a]? = some o := ⟨_, List.getElem?_eq_getElem hlt⟩
      obtain ⟨ad1, hA1, hn1, hc1⟩ := AT.out a o ho
      subst hA1
      have HO6 := Aside0.mk (at_le k o (List.mem_of_getElem? ho))
      have HDR : Aside0 ((atK k).drop a = o :: (atK k).drop (a + 1)) := ⟨by obtain ⟨hl, rfl⟩ := List.getElem?_eq_some_iff.1 ho; exact List.drop_eq_getElem_cons hl⟩
      have x1 : wr.cell? (ad1.add a) = some (.pointer (some ⟨g, o, none⟩)) := FR.out.cell hc1 (Nat.le_refl _) (by rw [add_block]; exact hn1)
      have x2 : wr.cell? ⟨g, o, none⟩ = some (.int .i64 (getK x o)) := (blk_cell BG.out o).trans (ev_get x _ o HO6.out.1 HO6.out.2)
      clear hc1 hn1 ho
      cases us with
      | nil =>
        have HR : Aside0 (fillOf k ws = none) := ⟨by unfold fillOf; rw [HF.out, HDR.out]; rfl⟩
        simp only [List.length_nil] at hcw ⊢
        go_wp2_with (fail)
        go_ret
        rw [HR.out]
        exact ⟨rfl, ⟨_, _, _, _, BG.out⟩, (Fr.of_below HWL.out).trans (FR.out.mono HWL.out.size)⟩
      | cons t r =>
        simp only [List.length_cons] at hcw hlm ⊢
        obtain ⟨ad2, hA2, hw2⟩ := WS.out.2 0 t rfl
        subst hA2
        have x3 : wr.cell? ad2 = some (.string t) := hw2
        have HTS := Aside0.mk (HSZ.out t (US.out.2 t (List.mem_cons_self ..)))
        have FRW := Aside0.mk ((Fr.of_below HWL.out).trans (FR.out.mono HWL.out.size))
        have HLW : Aside0 (LW wr) := ⟨HL.out.below (HB0.out.trans (FRW.out.below HB0.out.size HG0.out))⟩
        cases hn : numOf t with
        | none =>
          have HN := Aside0.mk hn
          have HR : Aside0 (fillOf k ws = none) := ⟨by unfold fillOf; rw [HF.out, HDR.out, fillNums, HN.out]; rfl⟩
          clear hn
          go_wp2_with (go_at_call 58; refine (number_no t HN.out _ HLW.out HTS.out).mono ?_; rintro e w3 ⟨⟨v3, rfl⟩, hb⟩; have NB := Aside0.mk hb; clear hb)
          go_ret
          rw [HR.out]
          exact ⟨rfl, ⟨_, _, _, _, blk_below BG.out NB.out⟩, FRW.out.trans (Fr.of_below (NB.out.mono FRW.out.size))⟩
        | some n =>
          have HN := Aside0.mk hn
          have HF2 : Aside0 (fillNums (atK k) ws ⟨k, 0, 0, 0, 0, 0, 0, []⟩ = fillNums ((atK k).drop (a + 1)) r (setK x n o)) := ⟨by rw [HF.out, HDR.out, fillNums, HN.out]⟩
          have HX2 : Aside0 ((setK x n o).f0 = k ∧ (setK x n o).f7 = []) := ⟨by rw [setK_f0, setK_f7]; exact HX.out⟩
          obtain ⟨A3, hsl, hw3⟩ := words_tail WS.out cw (by omega)
          have WS3 := Aside0.mk hw3
          have US2 : Aside0 (r.length ≤ ws.length ∧ ∀ t ∈ r, t ∈ ws) := ⟨by have h1 := US.out.1; have h2 := US.out.2; simp only [List.length_cons] at h1; exact ⟨by omega, fun q hq => h2 q (List.mem_cons_of_mem _ hq)⟩⟩
          have hcw3 : r.length ≤ cw - 1 := by omega
          have HCW3 := Aside0.mk hcw3
          clear hn hw3 hcw3
          go_wp2_with (go_at_call 58; refine (number_yes t n HN.out _ HLW.out HTS.out).mono ?_; rintro e w3 ⟨rfl, hb⟩; have NB := Aside0.mk hb; clear hb; have BG3 := Aside0.mk (blk_below BG.out NB.out); have x4 : w3.cell? ⟨g, o, none⟩ = some (.int .i64 (getK x o)) := (blk_cell BG3.out o).trans (ev_get x _ o HO6.out.1 HO6.out.2); have x5 : w3.frozen? ⟨g, o, none⟩ = false := Lib.frozen_of_heap BG3.out o)
          have FR3 := Aside0.mk (fr_set (FR.out.trans (Fr.of_below (NB.out.mono FR.out.size))) o (.int .i64 n))
          have BG4 : Aside0 ((w3.setCell ⟨g, o, none⟩ (.int .i64 n)).heap[g]? = some (.cells (evC (setK x n o) (.slice none 0 0)) 24 (0, 0))) := ⟨blk_put BG3.out o _ (setK_cells x _ n o HO6.out.1 HO6.out.2)⟩
          have WS4 := Aside0.mk ((WS3.out.below NB.out).fr (base := w3.heap.size) (w' := w3.setCell ⟨g, o, none⟩ (.int .i64 n)) (fr_set ⟨rfl, rfl, rfl, Nat.le_refl _, fun _ _ _ => rfl⟩ o _) (Nat.le_refl _))
          go_roundw
          case rel => exact ⟨a + 1, A3, cw - 1, r, setK x n o, by go_num, by omega, rfl, HCW3.out, WS4, US2, HF2, HX2, BG4, FR3⟩
          case measure => simp [intOf]; omega
    · obtain rfl : a = (atK k).length := by omega
      have HF2 : Aside0 (fillNums (atK k) ws ⟨k, 0, 0, 0, 0, 0, 0, []⟩ = some (x, us)) := ⟨by rw [HF.out, List.drop_length]; rfl⟩
      have FRW := Aside0.mk ((Fr.of_below HWL.out).trans (FR.out.mono HWL.out.size))
      have z3 : wr.cell? ⟨g4, 3, none⟩ = some (.slice (some ⟨bW, 0, none⟩) (wsK k).length (wsK k).length) := (blk_cell (FR.out.blk BF.out (Nat.le_refl _) NF.out) 3).trans rfl
      clear HF ha hlt
      have HWX : Aside0 (wsK k = wsK k) := ⟨rfl⟩
      cases us with
      | nil =>
        have HR : Aside0 (fillOf k ws = none) := ⟨by unfold fillOf; rw [HF2.out]; simp only [Option.bind_some]; rw [show fillWord k (x, []) = none by unfold fillWord; rw [HCL.out]; rfl]; rfl⟩
        simp only [List.length_nil] at hcw ⊢
        go_wp2_with (fail)
        go_ret
        rw [HR.out]
        exact ⟨rfl, ⟨_, _, _, _, BG.out⟩, FRW.out⟩
      | cons t r =>
        simp only [List.length_cons] at hcw hlm ⊢
        obtain ⟨ad2, hA2, hw2⟩ := WS.out.2 0 t rfl
        subst hA2
        have x3 : wr.cell? ad2 = some (.string t) := hw2
        by_cases hte : t.toList = []
        · have HR : Aside0 (fillOf k ws = none) := ⟨by unfold fillOf; rw [HF2.out]; simp only [Option.bind_some]; rw [show fillWord k (x, t :: r) = none by unfold fillWord; rw [HCL.out]; simp only; rw [if_pos True.intro, if_pos hte]]; rfl⟩
          have hte2 : t.toList.isEmpty = true := by rw [hte]; rfl
          clear hw2
          go_wp2_with (fail)
          go_ret
          rw [HR.out]
          exact ⟨rfl, ⟨_, _, _, _, BG.out⟩, FRW.out⟩
        · obtain ⟨n, hn⟩ : ∃ n, n = idxB (wsK k) t 0 := ⟨_, rfl⟩
          have HFO : Aside0 (fillOf k ws = fillRest (setK x n 6, r)) := ⟨by unfold fillOf; rw [HF2.out]; simp only [Option.bind_some]; rw [show fillWord k (x, t :: r) = some (setK x n 6, r) by unfold fillWord; rw [HCL.out]; simp only; rw [if_pos True.intro, if_neg hte, hn]]; rfl⟩
          have HNI := Aside0.mk hn
          have hte2 : t.toList.isEmpty = false := by cases h : t.toList with | nil => exact absurd h hte | cons _ _ => rfl
          have HX2 : Aside0 ((setK x n 6).f0 = k ∧ (setK x n 6).f7 = []) := ⟨by rw [setK_f0, setK_f7]; exact HX.out⟩
          obtain ⟨A3, hsl, hw3⟩ := words_tail WS.out cw (by omega)
          have WS3 := Aside0.mk hw3
          have US2 : Aside0 (r.length ≤ ws.length ∧ ∀ t ∈ r, t ∈ ws) := ⟨by have h1 := US.out.1; have h2 := US.out.2; simp only [List.length_cons] at h1; exact ⟨by omega, fun q hq => h2 q (List.mem_cons_of_mem _ hq)⟩⟩
          have BWR := Aside0.mk (FR.out.blk BW.out (Nat.le_refl _) NW.out)
          have z4 : wr.cell? ⟨g4, 4, none⟩ = some (.pointer (some ⟨g, 6, none⟩)) := (blk_cell (FR.out.blk BF.out (Nat.le_refl _) NF.out) 4).trans rfl
          have x6 : wr.cell? ⟨g, 6, none⟩ = some (.int .i64 x.f6) := (blk_cell BG.out 6).trans rfl
          have HWN := Aside0.mk (ws_len k)
          have XWS : Aside0 (wr.cell? ad2 = some (.string t)) := ⟨x3⟩
          clear hw2 hw3 hn hte
          go_wp2_with (fail)
          go_cut [2] (fun v2 wc => v2 = .slice (some ad2) (r.length + 1) cw ∧ Aside0 (wc.heap[g]? = some (.cells (evC (setK x n 6) (.slice none 0 0)) 24 (0, 0))) ∧ Aside0 (Fr wr.heap.size g wr wc))
          case first =>
            go_region_with (go_at_call 59; refine (index_any bW (wsK k) t _ HWN.out (by exact BWR.out)).mono ?_; rw [← HNI.out]; rintro e w5 ⟨rfl, hd⟩; have NB := Aside0.mk hd.below; have x3' : w5.cell? ad2 = some (.string t) := pw_cell_below hd.below XWS.out; have z4' : w5.cell? ⟨g4, 4, none⟩ = some (.pointer (some ⟨g, 6, none⟩)) := pw_cell_below hd.below z4; have x6' : w5.cell? ⟨g, 6, none⟩ = some (.int .i64 x.f6) := pw_cell_below hd.below x6; have BG5 := Aside0.mk (blk_below (w := wr.drew) BG.out hd.below); have f6' : w5.frozen? ⟨g, 6, none⟩ = false := Lib.frozen_of_heap BG5.out 6; clear hd)
            all_goals go_wp2_with (fail)
            all_goals go_meet
            all_goals exact ⟨rfl, ⟨blk_put (w := w5) BG5.out 6 _ rfl⟩, ⟨fr_set (w1 := w5) (Fr.of_below (show Below wr.heap.size wr w5 from ⟨NB.out.os, NB.out.tape, NB.out.output, NB.out.size, NB.out.block⟩)) 6 (.int .i64 n)⟩⟩
          case rest =>
            obtain ⟨rfl, BG2, FR2⟩ := hcut
            have FRW2 := Aside0.mk (FRW.out.trans (FR2.out.mono FRW.out.size))
            have WSN := Aside0.mk (WS3.out.fr FR2.out (Nat.le_refl _))
            clear BG FRW WS US z3 z4 x3 x6 hte2
            have BG := BG2
            have FRW := FRW2
            have WS := WSN
            have US := US2
            obtain ⟨x', hx'⟩ : ∃ x', x' = setK x n 6 := ⟨_, rfl⟩
            rw [← hx'] at BG HFO HX2 BG2
            clear hx' BG2 FRW2 WSN US2 FR2
            go_wp2_with (fail)
            obtain ⟨wl2, rfl⟩ : ∃ wl2 : World, wl2 = wc := ⟨_, rfl⟩
            have UL : Aside0 (r.length ≤ 4294967296) := ⟨Nat.le_trans US.out.1 HLEN.out⟩
            have GL2 := Aside0.mk (blk_lt BG.out)
            go_loopw [77] (fun i wr => ∃ (a : Nat) (ns : List Int) (un : Value), i = .int .i64 a ∧ a ≤ r.length ∧ Aside0 (numsIn r = (numsIn (r.drop a)).map (ns ++ ·)) ∧ Aside0 (ns.length = a) ∧ Aside0 (wr.heap[g]? = some (.cells (evC x' un) 24 (0, 0))) ∧ Aside0 (Kd.R (Kd.int .i64) 3 wr wl2.heap.size (fun k => wl2.heap.size ≤ k) un ns) ∧ Aside0 (Fr wl2.heap.size g wl2 wr)) (fun i _ => r.length - (intOf i).toNat)
            case atStart => exact ⟨0, [], _, rfl, by omega, ⟨by rw [List.drop_zero]; cases numsIn r <;> simp⟩, ⟨rfl⟩, BG, ⟨Kd.R_nil _ _ _ _ _⟩, ⟨⟨rfl, rfl, rfl, Nat.le_refl _, fun _ _ _ => rfl⟩⟩⟩
            case round =>
              clear BG
              obtain ⟨a, ns, un, rfl, ha, HN, HNL, BG, HO, FR2⟩ := hrel
              have hul := UL.out
              have FRX := Aside0.mk (FRW.out.trans (FR2.out.mono FRW.out.size))
              obtain ⟨Au, cu, rfl⟩ := Kd.R_slice HO.out
              by_cases hlt : a < r.length
              · obtain ⟨t, ht⟩ : ∃ t, r[a]? = some t := ⟨_, List.getElem?_eq_getElem hlt⟩
                obtain ⟨adw, hAw, hcw⟩ := WS.out.2 a t ht
                have had := WS.out.1 adw hAw
                subst hAw
                have x1 : wr.cell? (adw.add a) = some (.string t) := FR2.out.cell hcw (Nat.le_refl _) (by rw [add_block]; exact had)
                have HTS := Aside0.mk (HSZ.out t (US.out.2 t (List.mem_of_getElem? ht)))
                have HLW : Aside0 (LW wr) := ⟨HL.out.below (HB0.out.trans (FRX.out.below HB0.out.size HG0.out))⟩
                have HDR := Aside0.mk (nums_some ht)
                clear hcw had ht
                cases hn : numOf t with
                | none =>
                  have HNN := Aside0.mk hn
                  have HR : Aside0 (fillOf k ws = none) := ⟨by rw [HFO.out]; unfold fillRest; simp only; rw [HN.out, HDR.out, numsIn, HNN.out]; rfl⟩
                  clear hn
                  go_wp2_with (go_at_call 58; refine (number_no t HNN.out _ HLW.out HTS.out).mono ?_; rintro e w3 ⟨⟨v3, rfl⟩, hb⟩; have NB := Aside0.mk hb; clear hb)
                  go_ret
                  rw [HR.out]
                  exact ⟨rfl, ⟨_, _, _, _, blk_below BG.out NB.out⟩, FRX.out.trans (Fr.of_below (NB.out.mono FRX.out.size))⟩
                | some n =>
                  have HNN := Aside0.mk hn
                  have HN2 : Aside0 (numsIn r = (numsIn (r.drop (a + 1))).map ((ns ++ [n]) ++ ·)) := ⟨by rw [HN.out, HDR.out, numsIn, HNN.out]; cases numsIn (r.drop (a + 1)) <;> simp⟩
                  have HTL : Aside0 ((ns.length + 1) * 8 ≤ 140737488355328) := ⟨by rw [HNL.out]; omega⟩
                  clear hn
                  go_wp2_with (first
                    | (go_at_call 58; refine (number_yes t n HNN.out _ HLW.out HTS.out).mono ?_; rintro e w3 ⟨rfl, hb⟩; have NB := Aside0.mk hb; clear hb; have BG3 := Aside0.mk (blk_below BG.out NB.out); have HO3 := Aside0.mk (Kd.R_below HO.out NB.out); have x7 : w3.cell? ⟨g, 7, none⟩ = some (.slice Au ns.length cu) := (blk_cell BG3.out 7).trans rfl)
                    | ((with_reducible refine gate_builtin (b := .append) (xs := #[.tmp 92, .tmp 94]) rfl ?_); at_builtin; refine Kd.R_append (Kd.int .i64) (w0 := w3) wl2.heap.size rfl (.tmp 92) (.tmp 94) 22 3 (.int .i64 0) 8 rfl Tryd.underlying22 info3 rfl (by decide) (by omega) (.slice Au ns.length cu) ns n [.int .i64 n] (fun k => wl2.heap.size ≤ k) (fun _ => False) rfl rfl rfl (fun _ h => h.elim) (fun k hk => Nat.le_trans (Nat.le_trans FR2.out.size NB.out.size) hk) HO3.out (Below.refl _ _) (Nat.le_trans FR2.out.size NB.out.size) HTL.out ?_; intro v4 w4 ho hb _ _; obtain ⟨Av, cv, rfl⟩ := Kd.R_slice ho; have HO4 := Aside0.mk ho; have NB4 := Aside0.mk hb; clear ho hb; have BG4 : Aside0 (w4.heap[g]? = some (.cells (evC x' (.slice Au ns.length cu)) 24 (0, 0))) := ⟨(NB4.out.block g GL2.out).trans BG3.out⟩; have x8 : w4.cell? ⟨g, 7, none⟩ = some (.slice Au ns.length cu) := (blk_cell BG4.out 7).trans rfl; have x9 : w4.frozen? ⟨g, 7, none⟩ = false := Lib.frozen_of_heap BG4.out 7))
                  have HO5 : Aside0 (Kd.R (Kd.int .i64) 3 (w4.setCell ⟨g, 7, none⟩ (.slice Av (ns ++ [n]).length cv)) wl2.heap.size (fun k => wl2.heap.size ≤ k) (.slice Av (ns ++ [n]).length cv) (ns ++ [n])) := ⟨Kd.R_far HO4.out (fun k hk => Nat.ne_of_gt (Nat.lt_of_lt_of_le GL2.out hk)) _⟩
                  have BG5 : Aside0 ((w4.setCell ⟨g, 7, none⟩ (.slice Av (ns ++ [n]).length cv)).heap[g]? = some (.cells (evC x' (.slice Av (ns ++ [n]).length cv)) 24 (0, 0))) := ⟨blk_put BG4.out 7 _ rfl⟩
                  have FR5 := Aside0.mk (fr_set ((FR2.out.trans (Fr.of_below (NB.out.mono FR2.out.size))).trans (Fr.of_below NB4.out)) 7 (.slice Av (ns ++ [n]).length cv))
                  simp only [List.length_append, List.length_cons, List.length_nil, Nat.zero_add] at HO5 BG5 FR5
                  go_roundw
                  case rel => exact ⟨a + 1, ns ++ [n], _, by go_num, by omega, HN2, ⟨by rw [List.length_append, HNL.out]; rfl⟩, BG5, HO5, FR5⟩
                  case measure => simp [intOf]; omega
              · obtain rfl : a = r.length := by omega
                have HNS : Aside0 (numsIn r = some ns) := ⟨by rw [HN.out, List.drop_length]; simp [numsIn]⟩
                obtain ⟨_, hcu, hC⟩ := Kd.R_reads' HO.out
                have HC := Aside0.mk hC
                have HCU := Aside0.mk hcu
                obtain ⟨y, hy⟩ : ∃ y : S24, y = ⟨x'.f0, x'.f1, x'.f2, x'.f3, x'.f4, x'.f5, x'.f6, ns⟩ := ⟨_, rfl⟩
                have HY := Aside0.mk hy
                clear hC hcu hy hlt ha
                cases hok : okX y with
                | true =>
                  have HCK : Aside0 (checkOf ⟨x'.f0, x'.f1, x'.f2, x'.f3, x'.f4, x'.f5, x'.f6, ns⟩ = 0) := ⟨by rw [← HY.out, checkOf_ok, hok]; rfl⟩
                  have HR : Aside0 (fillOf k ws = some y) := ⟨by rw [HFO.out]; unfold fillRest; simp only; rw [HNS.out]; simp only [Option.bind_some]; rw [← HY.out, if_pos hok]⟩
                  clear hok
                  go_wp2_with (first
                    | (refine wpList_load_row rfl 24 (.tmp 100) rfl g rfl 24 (evC x' (.slice Au ns.length cu)) (0, 0) _ BG.out Tryd.underlying24 rfl (by kernel_rfl) ?_)
                    | (go_at_call 10; refine (chk_any ⟨x'.f0, x'.f1, x'.f2, x'.f3, x'.f4, x'.f5, x'.f6, ns⟩ Au cu _ HC.out HCU.out).mono ?_; rw [HCK.out]; rintro e w5 ⟨rfl, hb⟩; have NB := Aside0.mk hb; clear hb))
                  go_ret
                  rw [HR.out]
                  exact ⟨rfl, ⟨_, by rw [HY.out]; exact blk_below BG.out NB.out, by rw [HY.out]; exact Kd.R_mono (Kd.R_lower (Kd.R_below HO.out NB.out) FRW.out.size) (fun k hk => Nat.le_trans FRW.out.size hk)⟩, FRX.out.trans (Fr.of_below (NB.out.mono FRX.out.size))⟩
                | false =>
                  have HCK : Aside0 (checkOf ⟨x'.f0, x'.f1, x'.f2, x'.f3, x'.f4, x'.f5, x'.f6, ns⟩ = 180) := ⟨by rw [← HY.out, checkOf_ok, hok]; rfl⟩
                  have HR : Aside0 (fillOf k ws = none) := ⟨by rw [HFO.out]; unfold fillRest; simp only; rw [HNS.out]; simp only [Option.bind_some]; rw [← HY.out, if_neg (by rw [hok]; decide)]⟩
                  clear hok
                  go_wp2_with (first
                    | (refine wpList_load_row rfl 24 (.tmp 100) rfl g rfl 24 (evC x' (.slice Au ns.length cu)) (0, 0) _ BG.out Tryd.underlying24 rfl (by kernel_rfl) ?_)
                    | (go_at_call 10; refine (chk_any ⟨x'.f0, x'.f1, x'.f2, x'.f3, x'.f4, x'.f5, x'.f6, ns⟩ Au cu _ HC.out HCU.out).mono ?_; rw [HCK.out]; rintro e w5 ⟨rfl, hb⟩; have NB := Aside0.mk hb; clear hb))
                  go_ret
                  rw [HR.out]
                  exact ⟨rfl, ⟨_, _, _, _, blk_below BG.out NB.out⟩, FRX.out.trans (Fr.of_below (NB.out.mono FRX.out.size))⟩
end Go.Proofs.YtiapfhlipoomaaaDoor.Given
end
section
namespace Go.Proofs.YtiapfhlipoomaaaDoor.Given
open Go.RowKit Go.Proofs.YtiapfhlipoomaaaDoorW.PrintWords Go.Proofs.YtiapfhlipoomaaaDoorW.PrintLast Go.Proofs.YtiapfhlipoomaaaDoorW.PrintMore Go.Proofs.YtiapfhlipoomaaaDoor.Print
set_option linter.unusedVariables false
set_option linter.unusedSimpArgs false
def kindFrom (t : ByteArray) : Nat → Nat → Option Nat
  | 0, _ => none
  | m + 1, k => if (wordB k).toList = t.toList then some k else kindFrom t m (k + 1)
def kindOf (t : ByteArray) : Option Nat := kindFrom t 11 1
def oneOf (s : ByteArray) : Option S24 := (kindOf ((wordsL s).headD ⟨#[]⟩)).bind fun k => fillOf k (wordsL s).tail
def OneSays (w : World) (r : Option S24) (e : Ending) (w' : World) : Prop := match r with
  | some x => ∃ A c, e = .returned (.tuple #[.agg (evC x (.slice A x.f7.length c)), .bool true]) ∧ Kd.R (Kd.int .i64) 3 w' w.heap.size (fun k => w.heap.size ≤ k) (.slice A x.f7.length c) x.f7 ∧ Below w.heap.size w w'
  | none => (∃ x A n c, e = .returned (.tuple #[.agg (evC x (.slice A n c)), .bool false])) ∧ Below w.heap.size w w'
theorem kind_step (t : ByteArray) (k : Nat) (hk : 1 ≤ k) (h11 : k ≤ 11) (h : kindOf t = kindFrom t (12 - k) k) : kindOf t = if (wordB k).toList = t.toList then some k else kindFrom t (12 - (k + 1)) (k + 1) := by
  rw [h, show 12 - k = (12 - (k + 1)) + 1 by omega, kindFrom]
theorem R_setRow {α : Type} {d : Kd α} {e base g t : Nat} {ok : Nat → Prop} {w : World} {v : Value} {xs : List α} {cs cs' : Array Value} (h : d.R e w base ok v xs) (hb : w.heap[g]? = some (.cells cs t (0, 0))) (ht : ∀ q, q ∈ e :: d.E → q ≠ t) : d.R e (w.setRow g cs') base (fun k => ok k ∧ k ≠ g) v xs :=
  Kd.R_step (Kd.R_types h hb ht) (fun k hk _ => setRow_other _ _ _ _ hk.2)
set_option maxRecDepth 100000 in
set_option maxHeartbeats 16000000 in
theorem one_any (s : ByteArray) (w : World) (hL : LW w) (hs : s.size < 4294967281) : Calls Tryd.prog 37 #[.string s] w (OneSays w (oneOf s)) := by
  have hu24 := Tryd.underlying24
  have hu48 := Tryd.underlying48
  have HL := Aside0.mk hL
  obtain ⟨n, hn⟩ : ∃ n : Nat, Lib.countB s space = n := ⟨_, rfl⟩
  have HN := Aside0.mk hn
  have hwl := words_length s n hn
  have hcl := count_le s
  rw [hn] at hcl
  obtain ⟨hd, tl, hws⟩ : ∃ hd tl, wordsL s = hd :: tl := by cases h : wordsL s with | nil => rw [h] at hwl; cases hwl | cons a b => exact ⟨a, b, rfl⟩
  have hsz : ∀ t ∈ tl, t.size ≤ 281474976710656 := fun t ht => Nat.le_trans (word_size s t (by rw [hws]; exact List.mem_cons_of_mem _ ht)) (by omega)
  rw [hws] at hwl
  have htl : tl.length = n := by simpa using hwl
  subst htl
  have HSZ := Aside0.mk hsz
  have HWS := Aside0.mk hws
  have HCL0 := Aside0.mk (show tl.length ≤ 4294967296 by omega)
  have HONE : Aside0 (oneOf s = (kindOf hd).bind fun k => fillOf k tl) := ⟨by unfold oneOf; rw [hws]; rfl⟩
  clear hL hn hwl hcl hws hsz
  go_enter Tryd.func37, Tryd.ntmps37
  go_wp2_with (go_at_call 48; refine (split_any s tl.length HN.out _ hs (HL.out.below (bel1 w _))).mono ?_; rintro e w1 ⟨rfl, hbk, hb⟩; have BR := Aside0.mk (blk_below (heap_alloc_new w (.cells (evC ⟨0, 0, 0, 0, 0, 0, 0, []⟩ (.slice none 0 0)) 24)) hb); have BS := Aside0.mk hbk; have HB := Aside0.mk ((bel1 w (.cells (evC ⟨0, 0, 0, 0, 0, 0, 0, []⟩ (.slice none 0 0)) 24)).trans (hb.mono (by rw [size_alloc]; omega))); clear hbk hb)
  rw [HWS.out] at BS
  rw [size_alloc] at BS
  have hsz1 := Aside0.mk (blk_lt BS.out)
  go_loopw [5] (fun v5 wr => ∃ k : Nat, v5 = .int .i64 k ∧ 1 ≤ k ∧ k ≤ 12 ∧ Aside0 (kindOf hd = kindFrom hd (12 - k) k) ∧ Aside0 (Below w1.heap.size w1 wr)) (fun v5 _ => 12 - (intOf v5).toNat)
  case atStart => exact ⟨1, rfl, by omega, by omega, ⟨rfl⟩, ⟨Below.refl _ _⟩⟩
  case round =>
    obtain ⟨k, rfl, hk1, hk2, HK, HB1⟩ := hrel
    obtain ⟨wo, rfl⟩ : ∃ wo : World, wo = wr := ⟨_, rfl⟩
    by_cases hlt : k ≤ 11
    · have HKS := Aside0.mk (kind_step hd k hk1 hlt HK.out)
      have K1 := Aside0.mk hk1
      have K2 := Aside0.mk hlt
      have SB := Aside0.mk (blk_below BS.out HB1.out)
      have RB := Aside0.mk (blk_below BR.out HB1.out)
      have GR := Aside0.mk (blk_lt RB.out)
      have GS := Aside0.mk (blk_lt SB.out)
      have hwn : ((k : Int) ≤ 11) := by omega
      rcases cls_of k with hcl | hcl | hcl
      · have HCL := Aside0.mk hcl
        clear hcl
        by_cases he : (wordB k).toList = hd.toList
        · have he1 : ((wordB k).toList == hd.toList) = true := beq_iff_eq.2 he
          have HOF : Aside0 (oneOf s = fillOf k tl) := ⟨by rw [HONE.out, HKS.out, if_pos he]; rfl⟩
          clear he
          have hsl0 := words_tail (w := wo) (g := wo.heap.size) (A := some ⟨w.heap.size + 1, 0, none⟩) (t := hd) (r := tl) ⟨fun ad h => by injection h with h; rw [← h]; exact Nat.ne_of_lt GS.out, fun j t hj => ⟨_, rfl, by rw [show (⟨w.heap.size + 1, 0, none⟩ : Addr).add j = ⟨w.heap.size + 1, j, none⟩ by simp [Addr.add]; exact Eq.symm, blk_cell SB.out j, List.getElem?_toArray, List.getElem?_map, hj]; rfl⟩⟩ (tl.length + 1) (Nat.le_refl _)
          obtain ⟨A1, hsl, hw1⟩ := hsl0
          have WS := Aside0.mk hw1
          clear hw1
          go_upto_region 7 with (go_at_call 23; refine (form_c0 k K1.out K2.out HCL.out wo.heap.size (⟨k, 0, 0, 0, 0, 0, 0, []⟩ : S24) (.slice none 0 0) _ rfl (heap_alloc_new _ _)).mono ?_; rintro e w2 ⟨_, rfl, ⟨AF, rfl, hF⟩, hb⟩; have BE := Aside0.mk (blk_below (heap_alloc_new wo (.cells (evC (⟨k, 0, 0, 0, 0, 0, 0, []⟩ : S24) (.slice none 0 0)) 24)) hb); have FF := Aside0.mk hF; have HE := Aside0.mk ((bel1 wo (.cells (evC (⟨k, 0, 0, 0, 0, 0, 0, []⟩ : S24) (.slice none 0 0)) 24)).trans (hb.mono (by rw [size_alloc]; omega))); clear hF hb)
          have BF := Aside0.mk (heap_alloc_new w2 (.cells #[.string (wordB k), .slice AF (foK k).length (foK k).length, .pointer none, .slice none 0 0, .pointer none, .bool (liK k)] 48))
          have BE2 := Aside0.mk (blk_below BE.out (bel1 w2 (.cells #[.string (wordB k), .slice AF (foK k).length (foK k).length, .pointer none, .slice none 0 0, .pointer none, .bool (liK k)] 48)))
          have FF2 := Aside0.mk (fun j o hj => by obtain ⟨ad, e1, e2, e3⟩ := FF.out j o hj; exact ⟨ad, e1, e2, pw_cell_below (bel1 w2 (.cells #[.string (wordB k), .slice AF (foK k).length (foK k).length, .pointer none, .slice none 0 0, .pointer none, .bool (liK k)] 48)) e3⟩ : ∀ (j o : Nat), (foK k)[j]? = some o → ∃ ad, AF = some ad ∧ ad.block ≠ wo.heap.size ∧ (w2.alloc (.cells #[.string (wordB k), .slice AF (foK k).length (foK k).length, .pointer none, .slice none 0 0, .pointer none, .bool (liK k)] 48)).cell? (ad.add j) = some (.pointer (some ⟨wo.heap.size, o, none⟩)))
          have HE2 := Aside0.mk (HE.out.trans ((bel1 w2 (.cells #[.string (wordB k), .slice AF (foK k).length (foK k).length, .pointer none, .slice none 0 0, .pointer none, .bool (liK k)] 48)).mono HE.out.size))
          clear BE FF HE
          generalize w2.heap.size = g7 at BF ⊢
          generalize w2.alloc (.cells #[.string (wordB k), .slice AF (foK k).length (foK k).length, .pointer none, .slice none 0 0, .pointer none, .bool (liK k)] 48) = wz at *
          have BE := BE2
          have FF := FF2
          have HE := HE2
          clear BE2 FF2 HE2
          have WZ := Aside0.mk (WS.out.below HE.out)
          have y0 : wz.cell? ⟨g7, 0, none⟩ = some (.string (wordB k)) := (blk_cell BF.out 0).trans rfl
          have s0 : wz.cell? ⟨w.heap.size + 1, 0, none⟩ = some (.string hd) := (blk_cell (blk_below SB.out HE.out) 0).trans rfl
          go_quiet (fail)
          all_goals go_wp2_with (fail)
          obtain ⟨wy, hwy⟩ : ∃ wy, wy = wz.drewN nq := ⟨_, rfl⟩
          rw [← hwy]
          have hY : Below wz.heap.size wz wy := by rw [hwy]; exact pw_below_drewN (Below.refl _ _) _
          have BE3 := Aside0.mk (blk_below BE.out hY)
          have BF3 := Aside0.mk (blk_below BF.out hY)
          have WZ3 := Aside0.mk (WZ.out.below hY)
          have HE3 := Aside0.mk (HE.out.trans (hY.mono HE.out.size))
          have FF3 := Aside0.mk (fun j o hj => by obtain ⟨ad, e1, e2, e3⟩ := FF.out j o hj; exact ⟨ad, e1, e2, pw_cell_below hY e3⟩ : ∀ (j o : Nat), (foK k)[j]? = some o → ∃ ad, AF = some ad ∧ ad.block ≠ wo.heap.size ∧ wy.cell? (ad.add j) = some (.pointer (some ⟨wo.heap.size, o, none⟩)))
          clear y0 s0 BE BF WZ HE FF hwy hY
          have BE := BE3
          have BF := BF3
          have WZ := WZ3
          have HE := HE3
          have FF := FF3
          clear BE3 BF3 WZ3 HE3 FF3
          have HBZ0 : Aside0 (Below w.heap.size w wy) := ⟨HB.out.trans ((below_then HB1.out HB1.out.size HE.out).mono HB.out.size)⟩
          have HBZ : Aside0 (∀ q, Below w.heap.size w (wy.drewN q)) := ⟨fun q => pw_below_drewN HBZ0.out q⟩
          have GB : Aside0 (w.heap.size ≤ wo.heap.size) := ⟨Nat.le_trans HB.out.size HB1.out.size⟩
          have y0 : wy.cell? ⟨g7, 0, none⟩ = some (.string (wordB k)) := (blk_cell BF.out 0).trans rfl
          have y1 : wy.cell? ⟨g7, 1, none⟩ = some (.slice AF (foK k).length (foK k).length) := (blk_cell BF.out 1).trans rfl
          have y2 : wy.cell? ⟨g7, 2, none⟩ = some (.pointer none) := (blk_cell BF.out 2).trans rfl
          have y3 : wy.cell? ⟨g7, 3, none⟩ = some (.slice none 0 0) := (blk_cell BF.out 3).trans rfl
          have y4 : wy.cell? ⟨g7, 4, none⟩ = some (.pointer none) := (blk_cell BF.out 4).trans rfl
          have y5 : wy.cell? ⟨g7, 5, none⟩ = some (.bool (liK k)) := (blk_cell BF.out 5).trans rfl
          cases hfo : fillOf k tl with
          | some x =>
            have HFO := Aside0.mk hfo
            have HOS : Aside0 (oneOf s = some x) := ⟨by rw [HOF.out, HFO.out]⟩
            clear hfo
            go_cut [9] (fun v9 wc => v9 = .bool true ∧ Aside0 (∃ u, wc.heap[wo.heap.size]? = some (.cells (evC x u) 24 (0, 0)) ∧ Kd.R (Kd.int .i64) 3 wc wy.heap.size (fun k => wy.heap.size ≤ k) u x.f7) ∧ Aside0 (Fr wy.heap.size wo.heap.size wy wc))
            case first =>
              go_still_tail 3, (by kernel_rfl)
              change wpList _ _ _ _ _ (World.drew wy)
              have HD := Aside0.mk (show Below wy.heap.size wy wy.drew from below_drew (Below.refl _ _))
              have BE4 : Aside0 (wy.drew.heap[wo.heap.size]? = some (.cells (evC ⟨k, 0, 0, 0, 0, 0, 0, []⟩ (.slice none 0 0)) 24 (0, 0))) := ⟨BE.out⟩
              have FF4 : Aside0 (∀ (j o : Nat), (foK k)[j]? = some o → ∃ ad, AF = some ad ∧ ad.block ≠ wo.heap.size ∧ wy.drew.cell? (ad.add j) = some (.pointer (some ⟨wo.heap.size, o, none⟩))) := ⟨FF.out⟩
              have WZ4 : Aside0 (WordsIn wy.drew wo.heap.size A1 tl) := ⟨WZ.out⟩
              have HBZ4 : Aside0 (Below w.heap.size w wy.drew) := ⟨below_drew HBZ0.out⟩
              generalize wy.drew = wd at HD BE4 FF4 WZ4 HBZ4 ⊢
              go_wp2_with (go_at_call 49; refine (fill_c0 k K1.out K2.out HCL.out wo.heap.size AF A1 tl.length tl _ w HL.out HBZ4.out GB.out BE4.out FF4.out WZ4.out (Nat.le_refl _) HCL0.out HSZ.out).mono ?_; rw [HFO.out]; rintro e w5 ⟨rfl, ⟨u5, h5, hr5⟩, hf5⟩; have BK5 := Aside0.mk h5; have HR5 := Aside0.mk hr5; have FR5 := Aside0.mk ((Fr.of_below HD.out).trans (hf5.mono HD.out.size)); clear h5 hr5 hf5)
              all_goals go_wp2_with (fail)
              all_goals go_meet
              all_goals exact ⟨rfl, ⟨⟨_, BK5.out, Kd.R_mono (Kd.R_lower HR5.out HD.out.size) (fun k hk => Nat.le_trans HD.out.size hk)⟩⟩, FR5⟩
            case rest =>
              obtain ⟨rfl, ⟨u, hbk, hR⟩, FR⟩ := hcut
              obtain ⟨Au, cu, rfl⟩ := Kd.R_slice hR
              have HR := Aside0.mk hR
              clear hR
              have BK := Aside0.mk hbk
              have RB2 := Aside0.mk (FR.out.blk (blk_below RB.out HE.out) (Nat.le_refl _) (Nat.ne_of_lt GR.out))
              have HBC : Aside0 (Below w.heap.size w wc) := ⟨HBZ0.out.trans (FR.out.below HBZ0.out.size GB.out)⟩
              clear hbk
              go_wp2_with (first
                | (refine wpList_load_row rfl 24 (.tmp 6) rfl wo.heap.size rfl 24 (evC x (.slice Au x.f7.length cu)) (0, 0) _ BK.out Tryd.underlying24 rfl (by kernel_rfl) ?_)
                | (refine wpList_store_row rfl 24 (.tmp 2) (.tmp 32) rfl w.heap.size (evC x (.slice Au x.f7.length cu)) rfl rfl 24 _ RB2.out (by kernel_rfl) rfl (by kernel_rfl) ?_; have n9_ : Aside0 ((wc.setRow w.heap.size (evC x (.slice Au x.f7.length cu))).heap[w.heap.size]? = some (.cells (evC x (.slice Au x.f7.length cu)) 24 (0, 0))) := ⟨setRow_heap _ _ _ _ _ _ RB2.out⟩; have n8_ := Aside0.mk (below_setRow HBC.out (Nat.le_refl _) (evC x (.slice Au x.f7.length cu))); have n7_ := Aside0.mk (R_setRow HR.out RB2.out (by decide) (cs' := evC x (.slice Au x.f7.length cu))); generalize wc.setRow w.heap.size (evC x (.slice Au x.f7.length cu)) = wy at n9_ n8_ n7_ ⊢))
              refine bodyPost_ret (results_ct rfl _ _ w.heap.size 24 (evC x (.slice Au x.f7.length cu)) (0, 0) _ rfl n9_.out Tryd.underlying24 rfl (by kernel_rfl)) rfl ?_
              rw [HOS.out]
              exact ⟨Au, cu, rfl, Kd.R_mono (Kd.R_lower n7_.out HBZ0.out.size) (fun k hk => Nat.le_trans HBZ0.out.size hk.1), n8_.out⟩
          | none =>
            have HFO := Aside0.mk hfo
            have HOS : Aside0 (oneOf s = none) := ⟨by rw [HOF.out, HFO.out]⟩
            clear hfo
            go_cut [9] (fun v9 wc => v9 = .bool false ∧ Aside0 (∃ x A n c, wc.heap[wo.heap.size]? = some (.cells (evC x (.slice A n c)) 24 (0, 0))) ∧ Aside0 (Fr wy.heap.size wo.heap.size wy wc))
            case first =>
              go_still_tail 3, (by kernel_rfl)
              change wpList _ _ _ _ _ (World.drew wy)
              have HD := Aside0.mk (show Below wy.heap.size wy wy.drew from below_drew (Below.refl _ _))
              have BE4 : Aside0 (wy.drew.heap[wo.heap.size]? = some (.cells (evC ⟨k, 0, 0, 0, 0, 0, 0, []⟩ (.slice none 0 0)) 24 (0, 0))) := ⟨BE.out⟩
              have FF4 : Aside0 (∀ (j o : Nat), (foK k)[j]? = some o → ∃ ad, AF = some ad ∧ ad.block ≠ wo.heap.size ∧ wy.drew.cell? (ad.add j) = some (.pointer (some ⟨wo.heap.size, o, none⟩))) := ⟨FF.out⟩
              have WZ4 : Aside0 (WordsIn wy.drew wo.heap.size A1 tl) := ⟨WZ.out⟩
              have HBZ4 : Aside0 (Below w.heap.size w wy.drew) := ⟨below_drew HBZ0.out⟩
              generalize wy.drew = wd at HD BE4 FF4 WZ4 HBZ4 ⊢
              go_wp2_with (go_at_call 49; refine (fill_c0 k K1.out K2.out HCL.out wo.heap.size AF A1 tl.length tl _ w HL.out HBZ4.out GB.out BE4.out FF4.out WZ4.out (Nat.le_refl _) HCL0.out HSZ.out).mono ?_; rw [HFO.out]; rintro e w5 ⟨rfl, ⟨x5, A5, n5, c5, h5⟩, hf5⟩; have BK5 := Aside0.mk h5; have FR5 := Aside0.mk ((Fr.of_below HD.out).trans (hf5.mono HD.out.size)); clear h5 hf5)
              all_goals go_wp2_with (fail)
              all_goals go_meet
              all_goals exact ⟨rfl, ⟨⟨_, _, _, _, BK5.out⟩⟩, FR5⟩
            case rest =>
              obtain ⟨rfl, ⟨x, Au, nu, cu, hbk⟩, FR⟩ := hcut
              have BK := Aside0.mk hbk
              have RB2 := Aside0.mk (FR.out.blk (blk_below RB.out HE.out) (Nat.le_refl _) (Nat.ne_of_lt GR.out))
              have HBC : Aside0 (Below w.heap.size w wc) := ⟨HBZ0.out.trans (FR.out.below HBZ0.out.size GB.out)⟩
              clear hbk
              go_wp2_with (first
                | (refine wpList_load_row rfl 24 (.tmp 6) rfl wo.heap.size rfl 24 (evC x (.slice Au nu cu)) (0, 0) _ BK.out Tryd.underlying24 rfl (by kernel_rfl) ?_)
                | (refine wpList_store_row rfl 24 (.tmp 2) (.tmp 32) rfl w.heap.size (evC x (.slice Au nu cu)) rfl rfl 24 _ RB2.out (by kernel_rfl) rfl (by kernel_rfl) ?_; have n9_ : Aside0 ((wc.setRow w.heap.size (evC x (.slice Au nu cu))).heap[w.heap.size]? = some (.cells (evC x (.slice Au nu cu)) 24 (0, 0))) := ⟨setRow_heap _ _ _ _ _ _ RB2.out⟩; have n8_ := Aside0.mk (below_setRow HBC.out (Nat.le_refl _) (evC x (.slice Au nu cu))); generalize wc.setRow w.heap.size (evC x (.slice Au nu cu)) = wy at n9_ n8_ ⊢))
              refine bodyPost_ret (results_ct rfl _ _ w.heap.size 24 (evC x (.slice Au nu cu)) (0, 0) _ rfl n9_.out Tryd.underlying24 rfl (by kernel_rfl)) rfl ?_
              rw [HOS.out]
              exact ⟨⟨_, _, _, _, rfl⟩, n8_.out⟩
        · have he1 : ((wordB k).toList == hd.toList) = false := beq_eq_false_iff_ne.2 he
          have HKN : Aside0 (kindOf hd = kindFrom hd (12 - (k + 1)) (k + 1)) := ⟨by rw [HKS.out, if_neg he]⟩
          clear he
          go_upto_region 7 with (go_at_call 23; refine (form_c0 k K1.out K2.out HCL.out wo.heap.size (⟨k, 0, 0, 0, 0, 0, 0, []⟩ : S24) (.slice none 0 0) _ rfl (heap_alloc_new _ _)).mono ?_; rintro e w2 ⟨_, rfl, ⟨AF, rfl, hF⟩, hb⟩; have HE := Aside0.mk ((bel1 wo (.cells (evC (⟨k, 0, 0, 0, 0, 0, 0, []⟩ : S24) (.slice none 0 0)) 24)).trans (hb.mono (by rw [size_alloc]; omega))); clear hF hb)
          have BF := Aside0.mk (heap_alloc_new w2 (.cells #[.string (wordB k), .slice AF (foK k).length (foK k).length, .pointer none, .slice none 0 0, .pointer none, .bool (liK k)] 48))
          have HE2 := Aside0.mk (HE.out.trans ((bel1 w2 (.cells #[.string (wordB k), .slice AF (foK k).length (foK k).length, .pointer none, .slice none 0 0, .pointer none, .bool (liK k)] 48)).mono HE.out.size))
          generalize w2.heap.size = g7 at BF ⊢
          generalize w2.alloc (.cells #[.string (wordB k), .slice AF (foK k).length (foK k).length, .pointer none, .slice none 0 0, .pointer none, .bool (liK k)] 48) = wz at *
          have y0 : wz.cell? ⟨g7, 0, none⟩ = some (.string (wordB k)) := (blk_cell BF.out 0).trans rfl
          have s0 : wz.cell? ⟨w.heap.size + 1, 0, none⟩ = some (.string hd) := (blk_cell (blk_below SB.out HE2.out) 0).trans rfl
          go_quiet (fail)
          all_goals go_wp2_with (fail)
          all_goals go_roundw
          case rel => exact ⟨k + 1, by go_num, by omega, by omega, HKN, ⟨pw_below_drewN (below_then HB1.out HB1.out.size HE2.out) _⟩⟩
          case measure => simp [intOf]; omega
      · have HCL := Aside0.mk hcl
        clear hcl
        by_cases he : (wordB k).toList = hd.toList
        · have he1 : ((wordB k).toList == hd.toList) = true := beq_iff_eq.2 he
          have HOF : Aside0 (oneOf s = fillOf k tl) := ⟨by rw [HONE.out, HKS.out, if_pos he]; rfl⟩
          clear he
          have hsl0 := words_tail (w := wo) (g := wo.heap.size) (A := some ⟨w.heap.size + 1, 0, none⟩) (t := hd) (r := tl) ⟨fun ad h => by injection h with h; rw [← h]; exact Nat.ne_of_lt GS.out, fun j t hj => ⟨_, rfl, by rw [show (⟨w.heap.size + 1, 0, none⟩ : Addr).add j = ⟨w.heap.size + 1, j, none⟩ by simp [Addr.add]; exact Eq.symm, blk_cell SB.out j, List.getElem?_toArray, List.getElem?_map, hj]; rfl⟩⟩ (tl.length + 1) (Nat.le_refl _)
          obtain ⟨A1, hsl, hw1⟩ := hsl0
          have WS := Aside0.mk hw1
          clear hw1
          go_upto_region 7 with (go_at_call 23; refine (form_c1 k K1.out K2.out HCL.out wo.heap.size (⟨k, 0, 0, 0, 0, 0, 0, []⟩ : S24) (.slice none 0 0) _ rfl (heap_alloc_new _ _)).mono ?_; rintro e w2 ⟨_, rfl, ⟨AF, rfl, hF⟩, hb⟩; have BE := Aside0.mk (blk_below (heap_alloc_new wo (.cells (evC (⟨k, 0, 0, 0, 0, 0, 0, []⟩ : S24) (.slice none 0 0)) 24)) hb); have FF := Aside0.mk hF; have HE := Aside0.mk ((bel1 wo (.cells (evC (⟨k, 0, 0, 0, 0, 0, 0, []⟩ : S24) (.slice none 0 0)) 24)).trans (hb.mono (by rw [size_alloc]; omega))); clear hF hb)
          have BF := Aside0.mk (heap_alloc_new w2 (.cells #[.string (wordB k), .slice AF (foK k).length (foK k).length, .pointer (some ⟨wo.heap.size, 6, none⟩), .slice none 0 0, .pointer none, .bool false] 48))
          have BE2 := Aside0.mk (blk_below BE.out (bel1 w2 (.cells #[.string (wordB k), .slice AF (foK k).length (foK k).length, .pointer (some ⟨wo.heap.size, 6, none⟩), .slice none 0 0, .pointer none, .bool false] 48)))
          have FF2 := Aside0.mk (fun j o hj => by obtain ⟨ad, e1, e2, e3⟩ := FF.out j o hj; exact ⟨ad, e1, e2, pw_cell_below (bel1 w2 (.cells #[.string (wordB k), .slice AF (foK k).length (foK k).length, .pointer (some ⟨wo.heap.size, 6, none⟩), .slice none 0 0, .pointer none, .bool false] 48)) e3⟩ : ∀ (j o : Nat), (foK k)[j]? = some o → ∃ ad, AF = some ad ∧ ad.block ≠ wo.heap.size ∧ (w2.alloc (.cells #[.string (wordB k), .slice AF (foK k).length (foK k).length, .pointer (some ⟨wo.heap.size, 6, none⟩), .slice none 0 0, .pointer none, .bool false] 48)).cell? (ad.add j) = some (.pointer (some ⟨wo.heap.size, o, none⟩)))
          have HE2 := Aside0.mk (HE.out.trans ((bel1 w2 (.cells #[.string (wordB k), .slice AF (foK k).length (foK k).length, .pointer (some ⟨wo.heap.size, 6, none⟩), .slice none 0 0, .pointer none, .bool false] 48)).mono HE.out.size))
          clear BE FF HE
          generalize w2.heap.size = g7 at BF ⊢
          generalize w2.alloc (.cells #[.string (wordB k), .slice AF (foK k).length (foK k).length, .pointer (some ⟨wo.heap.size, 6, none⟩), .slice none 0 0, .pointer none, .bool false] 48) = wz at *
          have BE := BE2
          have FF := FF2
          have HE := HE2
          clear BE2 FF2 HE2
          have WZ := Aside0.mk (WS.out.below HE.out)
          have y0 : wz.cell? ⟨g7, 0, none⟩ = some (.string (wordB k)) := (blk_cell BF.out 0).trans rfl
          have s0 : wz.cell? ⟨w.heap.size + 1, 0, none⟩ = some (.string hd) := (blk_cell (blk_below SB.out HE.out) 0).trans rfl
          go_quiet (fail)
          all_goals go_wp2_with (fail)
          obtain ⟨wy, hwy⟩ : ∃ wy, wy = wz.drewN nq := ⟨_, rfl⟩
          rw [← hwy]
          have hY : Below wz.heap.size wz wy := by rw [hwy]; exact pw_below_drewN (Below.refl _ _) _
          have BE3 := Aside0.mk (blk_below BE.out hY)
          have BF3 := Aside0.mk (blk_below BF.out hY)
          have WZ3 := Aside0.mk (WZ.out.below hY)
          have HE3 := Aside0.mk (HE.out.trans (hY.mono HE.out.size))
          have FF3 := Aside0.mk (fun j o hj => by obtain ⟨ad, e1, e2, e3⟩ := FF.out j o hj; exact ⟨ad, e1, e2, pw_cell_below hY e3⟩ : ∀ (j o : Nat), (foK k)[j]? = some o → ∃ ad, AF = some ad ∧ ad.block ≠ wo.heap.size ∧ wy.cell? (ad.add j) = some (.pointer (some ⟨wo.heap.size, o, none⟩)))
          clear y0 s0 BE BF WZ HE FF hwy hY
          have BE := BE3
          have BF := BF3
          have WZ := WZ3
          have HE := HE3
          have FF := FF3
          clear BE3 BF3 WZ3 HE3 FF3
          have HBZ0 : Aside0 (Below w.heap.size w wy) := ⟨HB.out.trans ((below_then HB1.out HB1.out.size HE.out).mono HB.out.size)⟩
          have HBZ : Aside0 (∀ q, Below w.heap.size w (wy.drewN q)) := ⟨fun q => pw_below_drewN HBZ0.out q⟩
          have GB : Aside0 (w.heap.size ≤ wo.heap.size) := ⟨Nat.le_trans HB.out.size HB1.out.size⟩
          have y0 : wy.cell? ⟨g7, 0, none⟩ = some (.string (wordB k)) := (blk_cell BF.out 0).trans rfl
          have y1 : wy.cell? ⟨g7, 1, none⟩ = some (.slice AF (foK k).length (foK k).length) := (blk_cell BF.out 1).trans rfl
          have y2 : wy.cell? ⟨g7, 2, none⟩ = some (.pointer (some ⟨wo.heap.size, 6, none⟩)) := (blk_cell BF.out 2).trans rfl
          have y3 : wy.cell? ⟨g7, 3, none⟩ = some (.slice none 0 0) := (blk_cell BF.out 3).trans rfl
          have y4 : wy.cell? ⟨g7, 4, none⟩ = some (.pointer none) := (blk_cell BF.out 4).trans rfl
          have y5 : wy.cell? ⟨g7, 5, none⟩ = some (.bool false) := (blk_cell BF.out 5).trans rfl
          cases hfo : fillOf k tl with
          | some x =>
            have HFO := Aside0.mk hfo
            have HOS : Aside0 (oneOf s = some x) := ⟨by rw [HOF.out, HFO.out]⟩
            clear hfo
            go_cut [9] (fun v9 wc => v9 = .bool true ∧ Aside0 (∃ u, wc.heap[wo.heap.size]? = some (.cells (evC x u) 24 (0, 0)) ∧ Kd.R (Kd.int .i64) 3 wc wy.heap.size (fun k => wy.heap.size ≤ k) u x.f7) ∧ Aside0 (Fr wy.heap.size wo.heap.size wy wc))
            case first =>
              go_still_tail 3, (by kernel_rfl)
              change wpList _ _ _ _ _ (World.drew wy)
              have HD := Aside0.mk (show Below wy.heap.size wy wy.drew from below_drew (Below.refl _ _))
              have BE4 : Aside0 (wy.drew.heap[wo.heap.size]? = some (.cells (evC ⟨k, 0, 0, 0, 0, 0, 0, []⟩ (.slice none 0 0)) 24 (0, 0))) := ⟨BE.out⟩
              have FF4 : Aside0 (∀ (j o : Nat), (foK k)[j]? = some o → ∃ ad, AF = some ad ∧ ad.block ≠ wo.heap.size ∧ wy.drew.cell? (ad.add j) = some (.pointer (some ⟨wo.heap.size, o, none⟩))) := ⟨FF.out⟩
              have WZ4 : Aside0 (WordsIn wy.drew wo.heap.size A1 tl) := ⟨WZ.out⟩
              have HBZ4 : Aside0 (Below w.heap.size w wy.drew) := ⟨below_drew HBZ0.out⟩
              generalize wy.drew = wd at HD BE4 FF4 WZ4 HBZ4 ⊢
              go_wp2_with (go_at_call 49; refine (fill_c1 k K1.out K2.out HCL.out wo.heap.size AF A1 tl.length tl _ w HL.out HBZ4.out GB.out BE4.out FF4.out WZ4.out (Nat.le_refl _) HCL0.out HSZ.out).mono ?_; rw [HFO.out]; rintro e w5 ⟨rfl, ⟨u5, h5, hr5⟩, hf5⟩; have BK5 := Aside0.mk h5; have HR5 := Aside0.mk hr5; have FR5 := Aside0.mk ((Fr.of_below HD.out).trans (hf5.mono HD.out.size)); clear h5 hr5 hf5)
              all_goals go_wp2_with (fail)
              all_goals go_meet
              all_goals exact ⟨rfl, ⟨⟨_, BK5.out, Kd.R_mono (Kd.R_lower HR5.out HD.out.size) (fun k hk => Nat.le_trans HD.out.size hk)⟩⟩, FR5⟩
            case rest =>
              obtain ⟨rfl, ⟨u, hbk, hR⟩, FR⟩ := hcut
              obtain ⟨Au, cu, rfl⟩ := Kd.R_slice hR
              have HR := Aside0.mk hR
              clear hR
              have BK := Aside0.mk hbk
              have RB2 := Aside0.mk (FR.out.blk (blk_below RB.out HE.out) (Nat.le_refl _) (Nat.ne_of_lt GR.out))
              have HBC : Aside0 (Below w.heap.size w wc) := ⟨HBZ0.out.trans (FR.out.below HBZ0.out.size GB.out)⟩
              clear hbk
              go_wp2_with (first
                | (refine wpList_load_row rfl 24 (.tmp 6) rfl wo.heap.size rfl 24 (evC x (.slice Au x.f7.length cu)) (0, 0) _ BK.out Tryd.underlying24 rfl (by kernel_rfl) ?_)
                | (refine wpList_store_row rfl 24 (.tmp 2) (.tmp 32) rfl w.heap.size (evC x (.slice Au x.f7.length cu)) rfl rfl 24 _ RB2.out (by kernel_rfl) rfl (by kernel_rfl) ?_; have n9_ : Aside0 ((wc.setRow w.heap.size (evC x (.slice Au x.f7.length cu))).heap[w.heap.size]? = some (.cells (evC x (.slice Au x.f7.length cu)) 24 (0, 0))) := ⟨setRow_heap _ _ _ _ _ _ RB2.out⟩; have n8_ := Aside0.mk (below_setRow HBC.out (Nat.le_refl _) (evC x (.slice Au x.f7.length cu))); have n7_ := Aside0.mk (R_setRow HR.out RB2.out (by decide) (cs' := evC x (.slice Au x.f7.length cu))); generalize wc.setRow w.heap.size (evC x (.slice Au x.f7.length cu)) = wy at n9_ n8_ n7_ ⊢))
              refine bodyPost_ret (results_ct rfl _ _ w.heap.size 24 (evC x (.slice Au x.f7.length cu)) (0, 0) _ rfl n9_.out Tryd.underlying24 rfl (by kernel_rfl)) rfl ?_
              rw [HOS.out]
              exact ⟨Au, cu, rfl, Kd.R_mono (Kd.R_lower n7_.out HBZ0.out.size) (fun k hk => Nat.le_trans HBZ0.out.size hk.1), n8_.out⟩
          | none =>
            have HFO := Aside0.mk hfo
            have HOS : Aside0 (oneOf s = none) := ⟨by rw [HOF.out, HFO.out]⟩
            clear hfo
            go_cut [9] (fun v9 wc => v9 = .bool false ∧ Aside0 (∃ x A n c, wc.heap[wo.heap.size]? = some (.cells (evC x (.slice A n c)) 24 (0, 0))) ∧ Aside0 (Fr wy.heap.size wo.heap.size wy wc))
            case first =>
              go_still_tail 3, (by kernel_rfl)
              change wpList _ _ _ _ _ (World.drew wy)
              have HD := Aside0.mk (show Below wy.heap.size wy wy.drew from below_drew (Below.refl _ _))
              have BE4 : Aside0 (wy.drew.heap[wo.heap.size]? = some (.cells (evC ⟨k, 0, 0, 0, 0, 0, 0, []⟩ (.slice none 0 0)) 24 (0, 0))) := ⟨BE.out⟩
              have FF4 : Aside0 (∀ (j o : Nat), (foK k)[j]? = some o → ∃ ad, AF = some ad ∧ ad.block ≠ wo.heap.size ∧ wy.drew.cell? (ad.add j) = some (.pointer (some ⟨wo.heap.size, o, none⟩))) := ⟨FF.out⟩
              have WZ4 : Aside0 (WordsIn wy.drew wo.heap.size A1 tl) := ⟨WZ.out⟩
              have HBZ4 : Aside0 (Below w.heap.size w wy.drew) := ⟨below_drew HBZ0.out⟩
              generalize wy.drew = wd at HD BE4 FF4 WZ4 HBZ4 ⊢
              go_wp2_with (go_at_call 49; refine (fill_c1 k K1.out K2.out HCL.out wo.heap.size AF A1 tl.length tl _ w HL.out HBZ4.out GB.out BE4.out FF4.out WZ4.out (Nat.le_refl _) HCL0.out HSZ.out).mono ?_; rw [HFO.out]; rintro e w5 ⟨rfl, ⟨x5, A5, n5, c5, h5⟩, hf5⟩; have BK5 := Aside0.mk h5; have FR5 := Aside0.mk ((Fr.of_below HD.out).trans (hf5.mono HD.out.size)); clear h5 hf5)
              all_goals go_wp2_with (fail)
              all_goals go_meet
              all_goals exact ⟨rfl, ⟨⟨_, _, _, _, BK5.out⟩⟩, FR5⟩
            case rest =>
              obtain ⟨rfl, ⟨x, Au, nu, cu, hbk⟩, FR⟩ := hcut
              have BK := Aside0.mk hbk
              have RB2 := Aside0.mk (FR.out.blk (blk_below RB.out HE.out) (Nat.le_refl _) (Nat.ne_of_lt GR.out))
              have HBC : Aside0 (Below w.heap.size w wc) := ⟨HBZ0.out.trans (FR.out.below HBZ0.out.size GB.out)⟩
              clear hbk
              go_wp2_with (first
                | (refine wpList_load_row rfl 24 (.tmp 6) rfl wo.heap.size rfl 24 (evC x (.slice Au nu cu)) (0, 0) _ BK.out Tryd.underlying24 rfl (by kernel_rfl) ?_)
                | (refine wpList_store_row rfl 24 (.tmp 2) (.tmp 32) rfl w.heap.size (evC x (.slice Au nu cu)) rfl rfl 24 _ RB2.out (by kernel_rfl) rfl (by kernel_rfl) ?_; have n9_ : Aside0 ((wc.setRow w.heap.size (evC x (.slice Au nu cu))).heap[w.heap.size]? = some (.cells (evC x (.slice Au nu cu)) 24 (0, 0))) := ⟨setRow_heap _ _ _ _ _ _ RB2.out⟩; have n8_ := Aside0.mk (below_setRow HBC.out (Nat.le_refl _) (evC x (.slice Au nu cu))); generalize wc.setRow w.heap.size (evC x (.slice Au nu cu)) = wy at n9_ n8_ ⊢))
              refine bodyPost_ret (results_ct rfl _ _ w.heap.size 24 (evC x (.slice Au nu cu)) (0, 0) _ rfl n9_.out Tryd.underlying24 rfl (by kernel_rfl)) rfl ?_
              rw [HOS.out]
              exact ⟨⟨_, _, _, _, rfl⟩, n8_.out⟩
        · have he1 : ((wordB k).toList == hd.toList) = false := beq_eq_false_iff_ne.2 he
          have HKN : Aside0 (kindOf hd = kindFrom hd (12 - (k + 1)) (k + 1)) := ⟨by rw [HKS.out, if_neg he]⟩
          clear he
          go_upto_region 7 with (go_at_call 23; refine (form_c1 k K1.out K2.out HCL.out wo.heap.size (⟨k, 0, 0, 0, 0, 0, 0, []⟩ : S24) (.slice none 0 0) _ rfl (heap_alloc_new _ _)).mono ?_; rintro e w2 ⟨_, rfl, ⟨AF, rfl, hF⟩, hb⟩; have HE := Aside0.mk ((bel1 wo (.cells (evC (⟨k, 0, 0, 0, 0, 0, 0, []⟩ : S24) (.slice none 0 0)) 24)).trans (hb.mono (by rw [size_alloc]; omega))); clear hF hb)
          have BF := Aside0.mk (heap_alloc_new w2 (.cells #[.string (wordB k), .slice AF (foK k).length (foK k).length, .pointer (some ⟨wo.heap.size, 6, none⟩), .slice none 0 0, .pointer none, .bool false] 48))
          have HE2 := Aside0.mk (HE.out.trans ((bel1 w2 (.cells #[.string (wordB k), .slice AF (foK k).length (foK k).length, .pointer (some ⟨wo.heap.size, 6, none⟩), .slice none 0 0, .pointer none, .bool false] 48)).mono HE.out.size))
          generalize w2.heap.size = g7 at BF ⊢
          generalize w2.alloc (.cells #[.string (wordB k), .slice AF (foK k).length (foK k).length, .pointer (some ⟨wo.heap.size, 6, none⟩), .slice none 0 0, .pointer none, .bool false] 48) = wz at *
          have y0 : wz.cell? ⟨g7, 0, none⟩ = some (.string (wordB k)) := (blk_cell BF.out 0).trans rfl
          have s0 : wz.cell? ⟨w.heap.size + 1, 0, none⟩ = some (.string hd) := (blk_cell (blk_below SB.out HE2.out) 0).trans rfl
          go_quiet (fail)
          all_goals go_wp2_with (fail)
          all_goals go_roundw
          case rel => exact ⟨k + 1, by go_num, by omega, by omega, HKN, ⟨pw_below_drewN (below_then HB1.out HB1.out.size HE2.out) _⟩⟩
          case measure => simp [intOf]; omega
      · have HCL := Aside0.mk hcl
        clear hcl
        by_cases he : (wordB k).toList = hd.toList
        · have he1 : ((wordB k).toList == hd.toList) = true := beq_iff_eq.2 he
          have HOF : Aside0 (oneOf s = fillOf k tl) := ⟨by rw [HONE.out, HKS.out, if_pos he]; rfl⟩
          clear he
          have hsl0 := words_tail (w := wo) (g := wo.heap.size) (A := some ⟨w.heap.size + 1, 0, none⟩) (t := hd) (r := tl) ⟨fun ad h => by injection h with h; rw [← h]; exact Nat.ne_of_lt GS.out, fun j t hj => ⟨_, rfl, by rw [show (⟨w.heap.size + 1, 0, none⟩ : Addr).add j = ⟨w.heap.size + 1, j, none⟩ by simp [Addr.add]; exact Eq.symm, blk_cell SB.out j, List.getElem?_toArray, List.getElem?_map, hj]; rfl⟩⟩ (tl.length + 1) (Nat.le_refl _)
          obtain ⟨A1, hsl, hw1⟩ := hsl0
          have WS := Aside0.mk hw1
          clear hw1
          go_upto_region 7 with (go_at_call 23; refine (form_c2 k K1.out K2.out HCL.out wo.heap.size (⟨k, 0, 0, 0, 0, 0, 0, []⟩ : S24) (.slice none 0 0) _ rfl (heap_alloc_new _ _)).mono ?_; rintro e w2 ⟨_, bW, rfl, ⟨AF, rfl, hF⟩, hW, hb⟩; have BE := Aside0.mk (blk_below (heap_alloc_new wo (.cells (evC (⟨k, 0, 0, 0, 0, 0, 0, []⟩ : S24) (.slice none 0 0)) 24)) hb); have BW := Aside0.mk hW; have NW : Aside0 (bW ≠ wo.heap.size) := ⟨by rintro rfl; have h1 := hW.symm.trans BE.out; injection h1 with h1; injection h1 with _ h2 _; cases h2⟩; clear hW; have FF := Aside0.mk hF; have HE := Aside0.mk ((bel1 wo (.cells (evC (⟨k, 0, 0, 0, 0, 0, 0, []⟩ : S24) (.slice none 0 0)) 24)).trans (hb.mono (by rw [size_alloc]; omega))); clear hF hb)
          have BF := Aside0.mk (heap_alloc_new w2 (.cells #[.string (wordB k), .slice AF (foK k).length (foK k).length, .pointer none, .slice (some ⟨bW, 0, none⟩) (wsK k).length (wsK k).length, .pointer (some ⟨wo.heap.size, 6, none⟩), .bool false] 48))
          have BE2 := Aside0.mk (blk_below BE.out (bel1 w2 (.cells #[.string (wordB k), .slice AF (foK k).length (foK k).length, .pointer none, .slice (some ⟨bW, 0, none⟩) (wsK k).length (wsK k).length, .pointer (some ⟨wo.heap.size, 6, none⟩), .bool false] 48)))
          have FF2 := Aside0.mk (fun j o hj => by obtain ⟨ad, e1, e2, e3⟩ := FF.out j o hj; exact ⟨ad, e1, e2, pw_cell_below (bel1 w2 (.cells #[.string (wordB k), .slice AF (foK k).length (foK k).length, .pointer none, .slice (some ⟨bW, 0, none⟩) (wsK k).length (wsK k).length, .pointer (some ⟨wo.heap.size, 6, none⟩), .bool false] 48)) e3⟩ : ∀ (j o : Nat), (foK k)[j]? = some o → ∃ ad, AF = some ad ∧ ad.block ≠ wo.heap.size ∧ (w2.alloc (.cells #[.string (wordB k), .slice AF (foK k).length (foK k).length, .pointer none, .slice (some ⟨bW, 0, none⟩) (wsK k).length (wsK k).length, .pointer (some ⟨wo.heap.size, 6, none⟩), .bool false] 48)).cell? (ad.add j) = some (.pointer (some ⟨wo.heap.size, o, none⟩)))
          have HE2 := Aside0.mk (HE.out.trans ((bel1 w2 (.cells #[.string (wordB k), .slice AF (foK k).length (foK k).length, .pointer none, .slice (some ⟨bW, 0, none⟩) (wsK k).length (wsK k).length, .pointer (some ⟨wo.heap.size, 6, none⟩), .bool false] 48)).mono HE.out.size))
          have BW2 := Aside0.mk (blk_below BW.out (bel1 w2 (.cells #[.string (wordB k), .slice AF (foK k).length (foK k).length, .pointer none, .slice (some ⟨bW, 0, none⟩) (wsK k).length (wsK k).length, .pointer (some ⟨wo.heap.size, 6, none⟩), .bool false] 48)))
          clear BW
          have BW := BW2
          clear BW2
          clear BE FF HE
          generalize w2.heap.size = g7 at BF ⊢
          generalize w2.alloc (.cells #[.string (wordB k), .slice AF (foK k).length (foK k).length, .pointer none, .slice (some ⟨bW, 0, none⟩) (wsK k).length (wsK k).length, .pointer (some ⟨wo.heap.size, 6, none⟩), .bool false] 48) = wz at *
          have BE := BE2
          have FF := FF2
          have HE := HE2
          clear BE2 FF2 HE2
          have WZ := Aside0.mk (WS.out.below HE.out)
          have y0 : wz.cell? ⟨g7, 0, none⟩ = some (.string (wordB k)) := (blk_cell BF.out 0).trans rfl
          have s0 : wz.cell? ⟨w.heap.size + 1, 0, none⟩ = some (.string hd) := (blk_cell (blk_below SB.out HE.out) 0).trans rfl
          go_quiet (fail)
          all_goals go_wp2_with (fail)
          obtain ⟨wy, hwy⟩ : ∃ wy, wy = wz.drewN nq := ⟨_, rfl⟩
          rw [← hwy]
          have hY : Below wz.heap.size wz wy := by rw [hwy]; exact pw_below_drewN (Below.refl _ _) _
          have BE3 := Aside0.mk (blk_below BE.out hY)
          have BF3 := Aside0.mk (blk_below BF.out hY)
          have WZ3 := Aside0.mk (WZ.out.below hY)
          have HE3 := Aside0.mk (HE.out.trans (hY.mono HE.out.size))
          have FF3 := Aside0.mk (fun j o hj => by obtain ⟨ad, e1, e2, e3⟩ := FF.out j o hj; exact ⟨ad, e1, e2, pw_cell_below hY e3⟩ : ∀ (j o : Nat), (foK k)[j]? = some o → ∃ ad, AF = some ad ∧ ad.block ≠ wo.heap.size ∧ wy.cell? (ad.add j) = some (.pointer (some ⟨wo.heap.size, o, none⟩)))
          have BW3 := Aside0.mk (blk_below BW.out hY)
          clear BW
          have BW := BW3
          clear BW3
          clear y0 s0 BE BF WZ HE FF hwy hY
          have BE := BE3
          have BF := BF3
          have WZ := WZ3
          have HE := HE3
          have FF := FF3
          clear BE3 BF3 WZ3 HE3 FF3
          have HBZ0 : Aside0 (Below w.heap.size w wy) := ⟨HB.out.trans ((below_then HB1.out HB1.out.size HE.out).mono HB.out.size)⟩
          have HBZ : Aside0 (∀ q, Below w.heap.size w (wy.drewN q)) := ⟨fun q => pw_below_drewN HBZ0.out q⟩
          have GB : Aside0 (w.heap.size ≤ wo.heap.size) := ⟨Nat.le_trans HB.out.size HB1.out.size⟩
          have y0 : wy.cell? ⟨g7, 0, none⟩ = some (.string (wordB k)) := (blk_cell BF.out 0).trans rfl
          have y1 : wy.cell? ⟨g7, 1, none⟩ = some (.slice AF (foK k).length (foK k).length) := (blk_cell BF.out 1).trans rfl
          have y2 : wy.cell? ⟨g7, 2, none⟩ = some (.pointer none) := (blk_cell BF.out 2).trans rfl
          have y3 : wy.cell? ⟨g7, 3, none⟩ = some (.slice (some ⟨bW, 0, none⟩) (wsK k).length (wsK k).length) := (blk_cell BF.out 3).trans rfl
          have y4 : wy.cell? ⟨g7, 4, none⟩ = some (.pointer (some ⟨wo.heap.size, 6, none⟩)) := (blk_cell BF.out 4).trans rfl
          have y5 : wy.cell? ⟨g7, 5, none⟩ = some (.bool false) := (blk_cell BF.out 5).trans rfl
          cases hfo : fillOf k tl with
          | some x =>
            have HFO := Aside0.mk hfo
            have HOS : Aside0 (oneOf s = some x) := ⟨by rw [HOF.out, HFO.out]⟩
            clear hfo
            go_cut [9] (fun v9 wc => v9 = .bool true ∧ Aside0 (∃ u, wc.heap[wo.heap.size]? = some (.cells (evC x u) 24 (0, 0)) ∧ Kd.R (Kd.int .i64) 3 wc wy.heap.size (fun k => wy.heap.size ≤ k) u x.f7) ∧ Aside0 (Fr wy.heap.size wo.heap.size wy wc))
            case first =>
              go_still_tail 3, (by kernel_rfl)
              change wpList _ _ _ _ _ (World.drew wy)
              have HD := Aside0.mk (show Below wy.heap.size wy wy.drew from below_drew (Below.refl _ _))
              have BE4 : Aside0 (wy.drew.heap[wo.heap.size]? = some (.cells (evC ⟨k, 0, 0, 0, 0, 0, 0, []⟩ (.slice none 0 0)) 24 (0, 0))) := ⟨BE.out⟩
              have FF4 : Aside0 (∀ (j o : Nat), (foK k)[j]? = some o → ∃ ad, AF = some ad ∧ ad.block ≠ wo.heap.size ∧ wy.drew.cell? (ad.add j) = some (.pointer (some ⟨wo.heap.size, o, none⟩))) := ⟨FF.out⟩
              have WZ4 : Aside0 (WordsIn wy.drew wo.heap.size A1 tl) := ⟨WZ.out⟩
              have HBZ4 : Aside0 (Below w.heap.size w wy.drew) := ⟨below_drew HBZ0.out⟩
              have BW4 : Aside0 (wy.drew.heap[bW]? = some (.cells ((wsK k).map Value.string).toArray 9 (0, 0))) := ⟨BW.out⟩
              generalize wy.drew = wd at HD BE4 FF4 WZ4 HBZ4 BW4 ⊢
              go_wp2_with (go_at_call 49; refine (fill_c2 k K1.out K2.out HCL.out wo.heap.size AF A1 tl.length bW tl _ w HL.out HBZ4.out GB.out BE4.out FF4.out BW4.out NW.out WZ4.out (Nat.le_refl _) HCL0.out HSZ.out).mono ?_; rw [HFO.out]; rintro e w5 ⟨rfl, ⟨u5, h5, hr5⟩, hf5⟩; have BK5 := Aside0.mk h5; have HR5 := Aside0.mk hr5; have FR5 := Aside0.mk ((Fr.of_below HD.out).trans (hf5.mono HD.out.size)); clear h5 hr5 hf5)
              all_goals go_wp2_with (fail)
              all_goals go_meet
              all_goals exact ⟨rfl, ⟨⟨_, BK5.out, Kd.R_mono (Kd.R_lower HR5.out HD.out.size) (fun k hk => Nat.le_trans HD.out.size hk)⟩⟩, FR5⟩
            case rest =>
              obtain ⟨rfl, ⟨u, hbk, hR⟩, FR⟩ := hcut
              obtain ⟨Au, cu, rfl⟩ := Kd.R_slice hR
              have HR := Aside0.mk hR
              clear hR
              have BK := Aside0.mk hbk
              have RB2 := Aside0.mk (FR.out.blk (blk_below RB.out HE.out) (Nat.le_refl _) (Nat.ne_of_lt GR.out))
              have HBC : Aside0 (Below w.heap.size w wc) := ⟨HBZ0.out.trans (FR.out.below HBZ0.out.size GB.out)⟩
              clear hbk
              go_wp2_with (first
                | (refine wpList_load_row rfl 24 (.tmp 6) rfl wo.heap.size rfl 24 (evC x (.slice Au x.f7.length cu)) (0, 0) _ BK.out Tryd.underlying24 rfl (by kernel_rfl) ?_)
                | (refine wpList_store_row rfl 24 (.tmp 2) (.tmp 32) rfl w.heap.size (evC x (.slice Au x.f7.length cu)) rfl rfl 24 _ RB2.out (by kernel_rfl) rfl (by kernel_rfl) ?_; have n9_ : Aside0 ((wc.setRow w.heap.size (evC x (.slice Au x.f7.length cu))).heap[w.heap.size]? = some (.cells (evC x (.slice Au x.f7.length cu)) 24 (0, 0))) := ⟨setRow_heap _ _ _ _ _ _ RB2.out⟩; have n8_ := Aside0.mk (below_setRow HBC.out (Nat.le_refl _) (evC x (.slice Au x.f7.length cu))); have n7_ := Aside0.mk (R_setRow HR.out RB2.out (by decide) (cs' := evC x (.slice Au x.f7.length cu))); generalize wc.setRow w.heap.size (evC x (.slice Au x.f7.length cu)) = wy at n9_ n8_ n7_ ⊢))
              refine bodyPost_ret (results_ct rfl _ _ w.heap.size 24 (evC x (.slice Au x.f7.length cu)) (0, 0) _ rfl n9_.out Tryd.underlying24 rfl (by kernel_rfl)) rfl ?_
              rw [HOS.out]
              exact ⟨Au, cu, rfl, Kd.R_mono (Kd.R_lower n7_.out HBZ0.out.size) (fun k hk => Nat.le_trans HBZ0.out.size hk.1), n8_.out⟩
          | none =>
            have HFO := Aside0.mk hfo
            have HOS : Aside0 (oneOf s = none) := ⟨by rw [HOF.out, HFO.out]⟩
            clear hfo
            go_cut [9] (fun v9 wc => v9 = .bool false ∧ Aside0 (∃ x A n c, wc.heap[wo.heap.size]? = some (.cells (evC x (.slice A n c)) 24 (0, 0))) ∧ Aside0 (Fr wy.heap.size wo.heap.size wy wc))
            case first =>
              go_still_tail 3, (by kernel_rfl)
              change wpList _ _ _ _ _ (World.drew wy)
              have HD := Aside0.mk (show Below wy.heap.size wy wy.drew from below_drew (Below.refl _ _))
              have BE4 : Aside0 (wy.drew.heap[wo.heap.size]? = some (.cells (evC ⟨k, 0, 0, 0, 0, 0, 0, []⟩ (.slice none 0 0)) 24 (0, 0))) := ⟨BE.out⟩
              have FF4 : Aside0 (∀ (j o : Nat), (foK k)[j]? = some o → ∃ ad, AF = some ad ∧ ad.block ≠ wo.heap.size ∧ wy.drew.cell? (ad.add j) = some (.pointer (some ⟨wo.heap.size, o, none⟩))) := ⟨FF.out⟩
              have WZ4 : Aside0 (WordsIn wy.drew wo.heap.size A1 tl) := ⟨WZ.out⟩
              have HBZ4 : Aside0 (Below w.heap.size w wy.drew) := ⟨below_drew HBZ0.out⟩
              have BW4 : Aside0 (wy.drew.heap[bW]? = some (.cells ((wsK k).map Value.string).toArray 9 (0, 0))) := ⟨BW.out⟩
              generalize wy.drew = wd at HD BE4 FF4 WZ4 HBZ4 BW4 ⊢
              go_wp2_with (go_at_call 49; refine (fill_c2 k K1.out K2.out HCL.out wo.heap.size AF A1 tl.length bW tl _ w HL.out HBZ4.out GB.out BE4.out FF4.out BW4.out NW.out WZ4.out (Nat.le_refl _) HCL0.out HSZ.out).mono ?_; rw [HFO.out]; rintro e w5 ⟨rfl, ⟨x5, A5, n5, c5, h5⟩, hf5⟩; have BK5 := Aside0.mk h5; have FR5 := Aside0.mk ((Fr.of_below HD.out).trans (hf5.mono HD.out.size)); clear h5 hf5)
              all_goals go_wp2_with (fail)
              all_goals go_meet
              all_goals exact ⟨rfl, ⟨⟨_, _, _, _, BK5.out⟩⟩, FR5⟩
            case rest =>
              obtain ⟨rfl, ⟨x, Au, nu, cu, hbk⟩, FR⟩ := hcut
              have BK := Aside0.mk hbk
              have RB2 := Aside0.mk (FR.out.blk (blk_below RB.out HE.out) (Nat.le_refl _) (Nat.ne_of_lt GR.out))
              have HBC : Aside0 (Below w.heap.size w wc) := ⟨HBZ0.out.trans (FR.out.below HBZ0.out.size GB.out)⟩
              clear hbk
              go_wp2_with (first
                | (refine wpList_load_row rfl 24 (.tmp 6) rfl wo.heap.size rfl 24 (evC x (.slice Au nu cu)) (0, 0) _ BK.out Tryd.underlying24 rfl (by kernel_rfl) ?_)
                | (refine wpList_store_row rfl 24 (.tmp 2) (.tmp 32) rfl w.heap.size (evC x (.slice Au nu cu)) rfl rfl 24 _ RB2.out (by kernel_rfl) rfl (by kernel_rfl) ?_; have n9_ : Aside0 ((wc.setRow w.heap.size (evC x (.slice Au nu cu))).heap[w.heap.size]? = some (.cells (evC x (.slice Au nu cu)) 24 (0, 0))) := ⟨setRow_heap _ _ _ _ _ _ RB2.out⟩; have n8_ := Aside0.mk (below_setRow HBC.out (Nat.le_refl _) (evC x (.slice Au nu cu))); generalize wc.setRow w.heap.size (evC x (.slice Au nu cu)) = wy at n9_ n8_ ⊢))
              refine bodyPost_ret (results_ct rfl _ _ w.heap.size 24 (evC x (.slice Au nu cu)) (0, 0) _ rfl n9_.out Tryd.underlying24 rfl (by kernel_rfl)) rfl ?_
              rw [HOS.out]
              exact ⟨⟨_, _, _, _, rfl⟩, n8_.out⟩
        · have he1 : ((wordB k).toList == hd.toList) = false := beq_eq_false_iff_ne.2 he
          have HKN : Aside0 (kindOf hd = kindFrom hd (12 - (k + 1)) (k + 1)) := ⟨by rw [HKS.out, if_neg he]⟩
          clear he
          go_upto_region 7 with (go_at_call 23; refine (form_c2 k K1.out K2.out HCL.out wo.heap.size (⟨k, 0, 0, 0, 0, 0, 0, []⟩ : S24) (.slice none 0 0) _ rfl (heap_alloc_new _ _)).mono ?_; rintro e w2 ⟨_, bW, rfl, ⟨AF, rfl, hF⟩, hW, hb⟩; have HE := Aside0.mk ((bel1 wo (.cells (evC (⟨k, 0, 0, 0, 0, 0, 0, []⟩ : S24) (.slice none 0 0)) 24)).trans (hb.mono (by rw [size_alloc]; omega))); clear hF hb)
          have BF := Aside0.mk (heap_alloc_new w2 (.cells #[.string (wordB k), .slice AF (foK k).length (foK k).length, .pointer none, .slice (some ⟨bW, 0, none⟩) (wsK k).length (wsK k).length, .pointer (some ⟨wo.heap.size, 6, none⟩), .bool false] 48))
          have HE2 := Aside0.mk (HE.out.trans ((bel1 w2 (.cells #[.string (wordB k), .slice AF (foK k).length (foK k).length, .pointer none, .slice (some ⟨bW, 0, none⟩) (wsK k).length (wsK k).length, .pointer (some ⟨wo.heap.size, 6, none⟩), .bool false] 48)).mono HE.out.size))
          generalize w2.heap.size = g7 at BF ⊢
          generalize w2.alloc (.cells #[.string (wordB k), .slice AF (foK k).length (foK k).length, .pointer none, .slice (some ⟨bW, 0, none⟩) (wsK k).length (wsK k).length, .pointer (some ⟨wo.heap.size, 6, none⟩), .bool false] 48) = wz at *
          have y0 : wz.cell? ⟨g7, 0, none⟩ = some (.string (wordB k)) := (blk_cell BF.out 0).trans rfl
          have s0 : wz.cell? ⟨w.heap.size + 1, 0, none⟩ = some (.string hd) := (blk_cell (blk_below SB.out HE2.out) 0).trans rfl
          go_quiet (fail)
          all_goals go_wp2_with (fail)
          all_goals go_roundw
          case rel => exact ⟨k + 1, by go_num, by omega, by omega, HKN, ⟨pw_below_drewN (below_then HB1.out HB1.out.size HE2.out) _⟩⟩
          case measure => simp [intOf]; omega
    · obtain rfl : k = 12 := by omega
      have HOF : Aside0 (oneOf s = none) := ⟨by rw [HONE.out, HK.out]; rfl⟩
      have RB := Aside0.mk (blk_below BR.out HB1.out)
      have HBC : Aside0 (Below w.heap.size w wo) := ⟨HB.out.trans (HB1.out.mono HB.out.size)⟩
      go_wp2_with (refine wpList_store_row rfl 24 (.tmp 2) (.tmp 34) rfl w.heap.size (evC ⟨0, 0, 0, 0, 0, 0, 0, []⟩ (.slice none 0 0)) rfl rfl 24 _ RB.out (by kernel_rfl) rfl (by kernel_rfl) ?_; have n9_ : Aside0 ((wo.setRow w.heap.size (evC ⟨0, 0, 0, 0, 0, 0, 0, []⟩ (.slice none 0 0))).heap[w.heap.size]? = some (.cells (evC ⟨0, 0, 0, 0, 0, 0, 0, []⟩ (.slice none 0 0)) 24 (0, 0))) := ⟨setRow_heap _ _ _ _ _ _ RB.out⟩; have n8_ := Aside0.mk (below_setRow HBC.out (Nat.le_refl _) (evC ⟨0, 0, 0, 0, 0, 0, 0, []⟩ (.slice none 0 0))); generalize wo.setRow w.heap.size (evC ⟨0, 0, 0, 0, 0, 0, 0, []⟩ (.slice none 0 0)) = wy at n9_ n8_ ⊢)
      refine bodyPost_ret (results_ct rfl _ _ w.heap.size 24 (evC ⟨0, 0, 0, 0, 0, 0, 0, []⟩ (.slice none 0 0)) (0, 0) _ rfl n9_.out Tryd.underlying24 rfl (by kernel_rfl)) rfl ?_
      rw [HOF.out]
      exact ⟨⟨_, _, _, _, rfl⟩, n8_.out⟩
end Go.Proofs.YtiapfhlipoomaaaDoor.Given
end
section
namespace Go.Proofs.YtiapfhlipoomaaaDoor.Given
open Go.RowKit Go.Proofs.YtiapfhlipoomaaaDoorW.PrintWords Go.Proofs.YtiapfhlipoomaaaDoorW.PrintLast Go.Proofs.YtiapfhlipoomaaaDoorW.PrintMore Go.Proofs.YtiapfhlipoomaaaDoor.Print
set_option linter.unusedVariables false
set_option linter.unusedSimpArgs false
def parseRun (s : ByteArray) : Nat → Nat → Nat → List S24 → List S24 × Nat × Int
  | 0, _, _, _ => ([], 0, 0)
  | m + 1, pos, from_, out =>
    if pos < s.size then
      if (Utf8.decode s pos).1 = 10 then match oneOf (s.extract from_ pos) with
        | some e => parseRun s m (pos + (Utf8.decode s pos).2) (pos + 1) (out ++ [e])
        | none => ([], out.length + 1, 180)
      else parseRun s m (pos + (Utf8.decode s pos).2) from_ out
    else if from_ < s.size then ([], out.length + 1, 180) else (out, 0, 0)
def parseOf (s : ByteArray) : List S24 × Nat × Int := parseRun s (s.size + 1) 0 0 []
def ParseSays (w : World) (r : List S24 × Nat × Int) (e : Ending) (w' : World) : Prop :=
  ∃ A c, e = .returned (.tuple #[.slice A r.1.length c, .int .i64 (r.2.1 : Int), .int .i64 r.2.2]) ∧ Kd.S k24 24 w' w.heap.size (fun _ => True) (.slice A r.1.length c) r.1 ∧ Below w.heap.size w w'
theorem width_pos (s : ByteArray) (pos : Nat) (h : pos < s.size) : 1 ≤ (Utf8.decode s pos).2 := by
  by_cases ha : (s[pos]'h).toNat < 128
  · rw [decode_ascii s pos h ha]
    exact Nat.le_refl _
  · exact (decode_high s pos h (by omega)).2
theorem extract_size (s : ByteArray) (a b : Nat) : (s.extract a b).size ≤ s.size := by
  rw [ByteArray.size_extract]
  omega
theorem fr_iter {base g : Nat} {w w1 : World} (h : Fr base g w w1) (s : ByteArray) (pos : Nat) : Fr base g w (w1.iterAt g s pos) :=
  ⟨h.os, h.tape, h.output, by rw [Lib.iterAt_size]; exact h.size, fun k hk hg => (Lib.iterAt_other w1 g k s pos hg).trans (h.block k hk hg)⟩
set_option maxRecDepth 100000 in
set_option maxHeartbeats 16000000 in
theorem parse_any (s : ByteArray) (w : World) (hL : LW w) (hs : s.size < 4294967281) : Calls Tryd.prog 18 #[.string s] w (ParseSays w (parseOf s)) := by
  have hu24 := Tryd.underlying24
  have HL := Aside0.mk hL
  have HS := Aside0.mk hs
  clear hL hs
  go_enter Tryd.func18, Tryd.ntmps18
  go_wp2
  have BI0 := Aside0.mk (World.iter_heap w s 0)
  have HW0 : Aside0 (Below w.heap.size w (w.iter s 0)) := ⟨bel1 w _⟩
  have HWS : Aside0 (w.heap.size + 1 ≤ (w.iter s 0).heap.size) := ⟨by show w.heap.size + 1 ≤ (w.alloc _).heap.size; rw [size_alloc]; exact Nat.le_refl _⟩
  obtain ⟨g, hg⟩ : ∃ g, g = w.heap.size := ⟨_, rfl⟩
  have HG := Aside0.mk hg
  rw [← hg] at BI0 HWS ⊢
  generalize w.iter s 0 = wi at BI0 HW0 HWS ⊢
  clear hg
  go_loopw [5, 6] (fun v5 v6 wr => ∃ (pos m fr : Nat) (out : List S24), v6 = .int .i64 (fr : Int) ∧ fr ≤ pos ∧ out.length ≤ pos ∧ out.length ≤ s.size ∧ s.size + 1 ≤ pos + m ∧ 1 ≤ m ∧ Aside0 (parseOf s = parseRun s m pos fr out) ∧ Aside0 (Kd.S k24 24 wr (g + 1) (fun _ => True) v5 out) ∧ Aside0 (wr.heap[g]? = some (.stringIter s pos)) ∧ Aside0 (Fr (g + 1) g wi wr)) (fun _ _ wr => s.size + 4 - wr.iterPos g)
  case atStart => exact ⟨0, s.size + 1, 0, [], rfl, by omega, by simp, by simp, by omega, by omega, ⟨rfl⟩, ⟨Kd.S_nil _ _ _ _ _⟩, BI0, ⟨⟨rfl, rfl, rfl, Nat.le_refl _, fun _ _ _ => rfl⟩⟩⟩
  case round =>
    clear BI0
    obtain ⟨pos, m, fr, out, rfl, hfp, hol, hos, hpm, hm1, HP, HO, BI, FR⟩ := hrel
    obtain ⟨Ao, co, rfl⟩ := Kd.S_slice HO.out
    obtain ⟨m, rfl⟩ : ∃ m', m = m' + 1 := ⟨m - 1, by omega⟩
    have hs := HS.out
    have GW := Aside0.mk (blk_lt BI.out)
    by_cases hp : pos < s.size
    · have hnx : ∀ ty, (Instr.next (.pointer (some ⟨g, 0, none⟩)) true ty).run Tryd.prog wr = _ := fun ty => Lib.run_next_any_at wr g s pos ty BI.out hp
      have hwd := width_pos s pos hp
      have BI2 := Aside0.mk (Lib.iterAt_heap wr g s pos (pos + (Utf8.decode s pos).2) BI.out)
      have FR2 := Aside0.mk (fr_iter FR.out s (pos + (Utf8.decode s pos).2))
      have HO2 : Aside0 (Kd.S k24 24 (wr.iterAt g s (pos + (Utf8.decode s pos).2)) (g + 1) (fun k => k < wr.heap.size) (.slice Ao out.length co) out) := ⟨Kd.S_mono (Kd.S_step (Kd.S_bound HO.out) (fun k hk _ => Lib.iterAt_other wr g k s _ (by have := hk.2.1; omega))) (fun k hk => hk.2.2.1)⟩
      have HSZ2 : Aside0 ((wr.iterAt g s (pos + (Utf8.decode s pos).2)).heap.size = wr.heap.size) := ⟨Lib.iterAt_size _ _ _ _⟩
      obtain ⟨wd, hwdd⟩ : ∃ wd, wd = (Utf8.decode s pos).2 := ⟨_, rfl⟩
      by_cases h10 : (Utf8.decode s pos).1 = 10
      · have HP2 : Aside0 (parseOf s = match oneOf (s.extract fr pos) with
          | some e => parseRun s m (pos + (Utf8.decode s pos).2) (pos + 1) (out ++ [e])
          | none => ([], out.length + 1, 180)) := ⟨by rw [HP.out, parseRun, if_pos hp, if_pos h10]⟩
        rw [h10] at hnx
        rw [← hwdd] at hnx hwd BI2 FR2 HO2 HP2 HSZ2
        clear HP h10 HO FR hwdd
        generalize wr.iterAt g s (pos + wd) = wn at hnx BI2 FR2 HO2 HSZ2
        have HLW : Aside0 (LW wn) := ⟨HL.out.below (HW0.out.trans (FR2.out.below (by have := HG.out; omega) (by have := HG.out; omega)))⟩
        have hsl : ∀ W, (Instr.slice 9 (.string s) (some (.int .i64 (fr : Int))) (some (.int .i64 (pos : Int))) none).run Tryd.prog W = .ok (.string (s.extract fr pos)) W := fun W => by
          have := run_slice_string (P := Tryd.prog) W 9 s .i64 .i64 (fr : Int) (pos : Int) Tryd.underlying9 (by omega) (by omega) (by omega)
          simpa using this
        cases hone : oneOf (s.extract fr pos) with
        | none =>
          have HONE := Aside0.mk hone
          replace HP2 : Aside0 (parseOf s = ([], out.length + 1, 180)) := ⟨by rw [HP2.out, HONE.out]⟩
          clear hone
          go_wp2_with (go_at_call 37; refine (one_any (s.extract fr pos) _ HLW.out (Nat.lt_of_le_of_lt (extract_size _ _ _) HS.out)).mono ?_; rw [HONE.out]; rintro e w3 ⟨⟨x3, A3, n3, c3, rfl⟩, hb⟩; have NB := Aside0.mk hb; clear hb)
          go_ret3
          rw [HP2.out]
          exact ⟨none, 0, rfl, Kd.S_nil _ _ _ _ _, below_alloc (HW0.out.trans ((FR2.out.trans (Fr.of_below (NB.out.mono (Nat.le_trans HWS.out FR2.out.size)))).below (by have := HG.out; omega) (by have := HG.out; omega))) _⟩
        | some x =>
          have HONE := Aside0.mk hone
          replace HP2 : Aside0 (parseOf s = parseRun s m (pos + wd) (pos + 1) (out ++ [x])) := ⟨by rw [HP2.out, HONE.out]⟩
          have HTL : Aside0 ((out.length + 1) * 80 ≤ 140737488355328) := ⟨by omega⟩
          clear hone
          go_upto_region 8 with (go_at_call 37; refine (one_any (s.extract fr pos) _ HLW.out (Nat.lt_of_le_of_lt (extract_size _ _ _) HS.out)).mono ?_; rw [HONE.out]; rintro e w3 ⟨A3, c3, rfl, hr, hb⟩; have NB := Aside0.mk hb; have HR3 := Aside0.mk hr; clear hb hr)
          have BX := Aside0.mk (heap_alloc_new w3 (.cells (evC x (.slice A3 x.f7.length c3)) 24))
          have NB3 := Aside0.mk (NB.out.trans ((bel1 w3 (.cells (evC x (.slice A3 x.f7.length c3)) 24)).mono NB.out.size))
          have HR4 := Aside0.mk (Kd.R_below HR3.out (bel1 w3 (.cells (evC x (.slice A3 x.f7.length c3)) 24)))
          clear NB HR3
          generalize w3.heap.size = g9 at BX ⊢
          generalize w3.alloc (.cells (evC x (.slice A3 x.f7.length c3)) 24) = wk at BX NB3 HR4 ⊢
          have NB := NB3
          have HR3 := HR4
          clear NB3 HR4
          go_wp2_with (first
            | (refine wpList_load_row rfl 24 (.tmp 9) rfl g9 rfl 24 (evC x (.slice A3 x.f7.length c3)) (0, 0) _ BX.out Tryd.underlying24 rfl (by kernel_rfl) ?_)
            | ((with_reducible refine gate_builtin (b := .append) (xs := #[.tmp 32, .tmp 34]) rfl ?_); at_builtin; refine Kd.S_append k24 (w0 := wk) (g + 1) rfl (.tmp 32) (.tmp 34) 29 24 (.agg #[.int .i64 0, .int .i64 0, .int .i64 0, .int .i64 0, .int .i64 0, .int .i64 0, .int .i64 0, .slice none 0 0]) 80 rfl Tryd.underlying29 info24 rfl (by decide) (by omega) (.slice Ao out.length co) out x [.int .i64 x.f0, .int .i64 x.f1, .int .i64 x.f2, .int .i64 x.f3, .int .i64 x.f4, .int .i64 x.f5, .int .i64 x.f6, .slice A3 x.f7.length c3] (fun _ => True) (fun k => wn.heap.size ≤ k) rfl rfl ?aP ?aK (fun _ _ => trivial) ?aO (Below.refl _ _) ?aS HTL.out ?_; (case aP => exact k24_mkM _ _ _ x (Kd.R_lower HR3.out (by have := blk_lt BI2.out; omega))); (case aK => exact fun k hk => ⟨trivial, fun h => by have := Kd.S_lt HO2.out k h.symm; have := HSZ2.out; omega⟩); (case aO => exact Kd.S_mono (Kd.S_below HO2.out NB.out) (fun k hk => ⟨trivial, fun h => by have := HSZ2.out; omega⟩)); (case aS => have := blk_lt BI2.out; have := NB.out.size; omega); intro v4 w4 ho hb _ _; obtain ⟨A4, c4, rfl⟩ := Kd.S_slice ho; have HO4 := Aside0.mk ho; have NB4 := Aside0.mk hb; clear ho hb))
          have hBI := BI2.out
          have NBX := Aside0.mk ((NB.out.mono (by have := blk_lt hBI; omega : g + 1 ≤ wn.heap.size)).trans NB4.out)
          go_roundw
          case rel => exact ⟨pos + wd, m, pos + 1, out ++ [x], by go_num, by omega, by simp; omega, by simp; omega, by omega, by omega, HP2, by simpa using HO4, ⟨(NBX.out.block g (by omega)).trans hBI⟩, ⟨FR2.out.trans (Fr.of_below NBX.out)⟩⟩
          case measure => simp only [World.iterPos, (NBX.out.block g (by omega)).trans hBI, BI.out]; omega
      · have HP2 : Aside0 (parseOf s = parseRun s m (pos + (Utf8.decode s pos).2) fr out) := ⟨by rw [HP.out, parseRun, if_pos hp, if_neg h10]⟩
        obtain ⟨dc, hdc⟩ : ∃ dc, dc = (Utf8.decode s pos).1 := ⟨_, rfl⟩
        rw [← hdc] at hnx h10
        rw [← hwdd] at hnx hwd BI2 FR2 HO2 HP2 HSZ2
        have h10' : ((dc : Int) == 10) = false := by simpa using (fun h => h10 (by omega) : ¬ (dc : Int) = 10)
        clear HP h10 HO FR hwdd hdc
        generalize wr.iterAt g s (pos + wd) = wn at hnx BI2 FR2 HO2 HSZ2
        go_wp2
        go_roundw
        case rel => exact ⟨pos + wd, m, fr, out, rfl, by omega, by omega, by omega, by omega, by omega, HP2, ⟨Kd.S_mono HO2.out (fun _ _ => trivial)⟩, BI2, FR2⟩
        case measure => simp only [World.iterPos, BI2.out, BI.out]; omega
    · have hnx : ∀ ty, (Instr.next (.pointer (some ⟨g, 0, none⟩)) true ty).run Tryd.prog wr = _ := fun ty => Lib.run_next_end_at wr g s pos ty BI.out hp
      have HE : Aside0 (Below w.heap.size w wr) := ⟨HW0.out.trans (FR.out.below (by have := HG.out; omega) (by have := HG.out; omega))⟩
      have HGL : Aside0 (w.heap.size ≤ g + 1) := ⟨by have := HG.out; omega⟩
      by_cases hfs : fr < s.size
      · have HP2 : Aside0 (parseOf s = ([], out.length + 1, 180)) := ⟨by rw [HP.out, parseRun, if_neg hp, if_pos hfs]⟩
        have hd : decide ((fr : Int) < (s.size : Int)) = true := decide_eq_true (by omega)
        go_wp2
        go_ret3
        rw [HP2.out]
        exact ⟨none, 0, rfl, Kd.S_nil _ _ _ _ _, HE.out⟩
      · have HP2 : Aside0 (parseOf s = (out, 0, 0)) := ⟨by rw [HP.out, parseRun, if_neg hp, if_neg hfs]⟩
        have hd : decide ((fr : Int) < (s.size : Int)) = false := decide_eq_false (by omega)
        go_wp2
        go_ret3
        rw [HP2.out]
        exact ⟨Ao, co, rfl, Kd.S_lower HO.out HGL.out, HE.out⟩
end Go.Proofs.YtiapfhlipoomaaaDoor.Given
end
section
namespace Go.Proofs.YtiapfhlipoomaaaDoor.Given
open Go.RowKit Go.Proofs.YtiapfhlipoomaaaDoorW.PrintWords Go.Proofs.YtiapfhlipoomaaaDoorW.PrintLast Go.Proofs.YtiapfhlipoomaaaDoorW.PrintMore Go.Proofs.YtiapfhlipoomaaaDoor.Print
set_option linter.unusedVariables false
set_option linter.unusedSimpArgs false
def cap (n : Nat) : Int := if n ≤ 2147483647 then (n : Int) else 2147483648
theorem more_cap (a b : Nat) : squintlaw18_more.f (cap a) (cap b) = some (cap (a + b)) := by
  unfold squintlaw18_more.f cap
  by_cases h1 : a ≤ 2147483647
  · rw [if_pos h1, if_neg (by omega), show wrap64 (2147483647 - (a : Int)) = 2147483647 - (a : Int) by simp only [wrap64]; omega]
    by_cases h2 : b ≤ 2147483647
    · rw [if_pos h2]
      by_cases h3 : a + b ≤ 2147483647
      · rw [if_pos h3, if_neg (by omega), show wrap64 ((a : Int) + (b : Int)) = ((a + b : Nat) : Int) by simp only [wrap64]; omega]
      · rw [if_neg h3, if_pos (by omega)]
    · rw [if_neg h2, if_pos (by omega), if_neg (by omega)]
  · rw [if_neg h1, if_pos (by omega), if_neg (by omega)]
theorem cap_le (a : Nat) : (cap a ≤ 2147483647) = (a ≤ 2147483647) := by
  unfold cap
  split <;> simp <;> omega
theorem cap_gt (a : Nat) : (cap a > 2147483647) = (¬ a ≤ 2147483647) := by
  unfold cap
  split <;> simp <;> omega
def evz : List S24 → Nat
  | [] => 0
  | x :: l => 120 + x.f7.length * 21 + evz l
theorem beyond_go {l : List S24} (hl : l.length ≤ 4611686018427387904) : ∀ (n j a : Nat), l.length - j = n → j ≤ l.length →
    ∃ k, squintlaw18_beyond.l0 k l (cap a) (j : Int) = some (decide (¬ a + evz (l.drop j) ≤ 2147483647))
  | 0, j, a, hn, hj => by
    have e : j = l.length := by omega
    refine ⟨2, ?_⟩
    unfold squintlaw18_beyond.l0
    rw [if_neg (by omega)]
    unfold squintlaw18_beyond.j1
    rw [if_neg (by decide)]
    subst e
    simp only [cap_gt, List.drop_length, evz, Nat.add_zero]
  | n + 1, j, a, hn, hj => by
    have hlt : j < l.length := by omega
    have ed := List.drop_eq_getElem_cons hlt
    by_cases ha : a ≤ 2147483647
    · have ei : rd_T24 l (j : Int) = l[j] := by simp [rd_T24, hlt]
      by_cases h7 : l[j].f7.length ≤ 102261126
      · obtain ⟨q, hq⟩ := beyond_go hl n (j + 1) (a + 120 + l[j].f7.length * 21) (by omega) (by omega)
        refine ⟨q + 2, ?_⟩
        unfold squintlaw18_beyond.l0
        rw [if_pos (by omega), decide_eq_true (by rw [cap_le]; exact ha)]
        unfold squintlaw18_beyond.j1
        rw [if_pos rfl, show (120 : Int) = cap 120 by decide, more_cap]
        simp only [Option.bind_some]
        rw [if_pos (by omega), if_pos (by omega), ei, if_neg (by omega), show wrap64 ((l[j].f7.length : Int) * 21) = cap (l[j].f7.length * 21) by unfold cap; rw [if_pos (by omega)]; simp only [wrap64]; omega, more_cap]
        simp only [Option.bind_some]
        rw [show wrap64 ((j : Int) + 1) = ((j + 1 : Nat) : Int) by simp only [wrap64]; omega, hq, ed]
        simp only [evz]
        congr 2
        rw [show a + 120 + l[j].f7.length * 21 + evz (l.drop (j + 1)) = a + (120 + l[j].f7.length * 21 + evz (l.drop (j + 1))) by omega]
      · refine ⟨2, ?_⟩
        unfold squintlaw18_beyond.l0
        rw [if_pos (by omega), decide_eq_true (by rw [cap_le]; exact ha)]
        unfold squintlaw18_beyond.j1
        rw [if_pos rfl, show (120 : Int) = cap 120 by decide, more_cap]
        simp only [Option.bind_some]
        rw [if_pos (by omega), if_pos (by omega), ei, if_pos (by omega)]
        refine congrArg some (Eq.symm (decide_eq_true ?_))
        rw [ed]
        simp only [evz]
        omega
    · refine ⟨2, ?_⟩
      unfold squintlaw18_beyond.l0
      rw [if_pos (by omega), decide_eq_false (by rw [cap_le]; exact ha)]
      unfold squintlaw18_beyond.j1
      rw [if_neg (by decide)]
      simp only [cap_gt]
      rw [decide_eq_true ha, decide_eq_true (by omega)]
theorem beyond_says (l : List S24) (hl : l.length ≤ 4611686018427387904) : ∃ k, squintlaw18_beyond.f k l = some (decide (¬ evz l ≤ 2147483647)) := by
  obtain ⟨k, hk⟩ := beyond_go hl l.length 0 0 rfl (Nat.zero_le _)
  rw [List.drop_zero, Nat.zero_add] at hk
  exact ⟨k, hk⟩
theorem dec_len : ∀ (k u : Nat), u < 10 ^ (k + 1) → (Lib.decDigits u).length ≤ k + 1
  | 0, u, h => by
    rw [Lib.decDigits, dif_pos (by omega)]
    simp
  | k + 1, u, h => by
    rw [Lib.decDigits]
    split
    · simp
    · have := dec_len k (u / 10) (by rw [Nat.pow_succ] at h; omega)
      simp only [List.length_append, List.length_cons, List.length_nil]
      omega
theorem itoa_len (n : Int) (h : -9223372036854775808 ≤ n ∧ n ≤ 9223372036854775807) : (itoaB n).size ≤ 20 := by
  have hs : (itoaB n).size = (Lib.itoa n).length := by simp [itoaB, ByteArray.size]
  rw [hs]
  unfold Lib.itoa
  split
  · have := dec_len 18 n.natAbs (by omega)
    simp only [List.length_cons]
    omega
  · have := dec_len 18 n.toNat (by omega)
    omega
def wsz : List ByteArray → Nat
  | [] => 0
  | x :: l => x.size + 1 + wsz l
theorem wsz_app : ∀ (a b : List ByteArray), wsz (a ++ b) = wsz a + wsz b
  | [], b => by simp [wsz]
  | x :: a, b => by simp only [List.cons_append, wsz, wsz_app a b]; omega
theorem wsz_le {n : Nat} : ∀ (a : List ByteArray), (∀ x ∈ a, x.size ≤ n) → wsz a ≤ a.length * (n + 1)
  | [], _ => by simp [wsz]
  | x :: a, h => by
    have h1 := wsz_le a (fun y hy => h y (List.mem_cons_of_mem _ hy))
    have h2 := h x (List.mem_cons_self ..)
    simp only [wsz, List.length_cons, Nat.succ_mul]
    omega
theorem join_sz : ∀ (xs : List ByteArray), (Lib.join (xs.map (·.data.toList)) [32]).length ≤ wsz xs
  | [] => Nat.zero_le _
  | [x] => by
    have e : x.data.toList.length = x.size := Array.length_toList
    have e2 : Lib.join ([x].map (·.data.toList)) [32] = x.data.toList := by simp [Lib.join, List.intercalate]
    rw [e2, e]
    unfold wsz
    omega
  | x :: y :: l => by
    have h1 := join_sz (y :: l)
    have e : x.data.toList.length = x.size := Array.length_toList
    have e2 : Lib.join ((x :: y :: l).map (·.data.toList)) [32] = x.data.toList ++ [32] ++ Lib.join ((y :: l).map (·.data.toList)) [32] := by simp [Lib.join, List.intercalate, List.intersperse]
    rw [e2, List.length_append, List.length_append, e]
    have e3 : ([32] : List UInt8).length = 1 := rfl
    rw [e3]
    unfold wsz
    omega
theorem line_sz (xs : List ByteArray) : (lineB xs).size ≤ wsz xs + 1 := by
  rw [lineB_size, joinB_size]
  exact Nat.add_le_add_right (join_sz xs) 1
theorem word_len (k : Nat) : (wordB k).size ≤ 5 := by unfold wordB; split <;> decide
theorem some_len (k n : Nat) : ((wsK k).getD n ⟨#[]⟩).size ≤ 6 := by
  have key : ∀ (l : List ByteArray), (∀ x ∈ l, x.size ≤ 6) → (l.getD n ⟨#[]⟩).size ≤ 6 := by
    intro l h
    rw [List.getD_eq_getElem?_getD]
    rcases hx : l[n]? with _ | x
    · show (0 : Nat) ≤ 6; omega
    · exact h x (List.mem_of_getElem? hx)
  refine key _ ?_
  unfold wsK
  split <;> decide
theorem cls1_fo (k : Nat) (h : clsK k = 1) : (foK k).length ≤ 2 := by
  unfold clsK at h
  split at h <;> simp_all [foK]
theorem words_sz (x : S24) (h : rngX x) : wsz (wordsX x) ≤ 119 + x.f7.length * 21 := by
  have hw := word_len x.f0.toNat
  have hfl := fo_len x.f0.toNat
  have h1 : wsz ((foK x.f0.toNat).map (fun o => itoaB (getK x o))) ≤ (foK x.f0.toNat).length * 21 := by
    have := wsz_le (n := 20) ((foK x.f0.toNat).map (fun o => itoaB (getK x o))) (fun y hy => by
      obtain ⟨o, ho, rfl⟩ := List.mem_map.1 hy
      exact itoa_len _ (h.1 o (fo_le _ o ho).2))
    rwa [List.length_map] at this
  have h2 : wsz (x.f7.map itoaB) ≤ x.f7.length * 21 := by
    have := wsz_le (n := 20) (x.f7.map itoaB) (fun y hy => by
      obtain ⟨o, ho, rfl⟩ := List.mem_map.1 hy
      exact itoa_len _ (h.2 o ho))
    rwa [List.length_map] at this
  have h3 : wsz (wordsM x.f0.toNat x) ≤ 7 ∨ ((foK x.f0.toNat).length ≤ 2 ∧ wsz (wordsM x.f0.toNat x) ≤ 21) := by
    unfold wordsM
    by_cases c1 : clsK x.f0.toNat = 1
    · rw [if_pos c1]
      exact .inr ⟨cls1_fo _ c1, by simp only [wsz]; have := itoa_len x.f6 (h.1 6 (by omega)); omega⟩
    · rw [if_neg c1]
      by_cases c2 : clsK x.f0.toNat = 2
      · rw [if_pos c2]
        exact .inl (by simp only [wsz]; have := some_len x.f0.toNat x.f6.toNat; omega)
      · rw [if_neg c2]
        exact .inl (by simp [wsz])
  unfold wordsX wordsK wordsF
  simp only [List.cons_append, wsz, wsz_app]
  rcases h3 with h3 | ⟨h4, h3⟩ <;> omega
theorem text_len : ∀ (l : List S24) (acc : ByteArray), (∀ x ∈ l, rngX x) → (l.foldl (fun acc x => acc ++ lineB (wordsX x)) acc).size ≤ acc.size + evz l
  | [], acc, h => Nat.le_refl _
  | x :: l, acc, h => by
    have h1 := text_len l (acc ++ lineB (wordsX x)) (fun y hy => h y (List.mem_cons_of_mem _ hy))
    have h2 := line_sz (wordsX x)
    have h3 := words_sz x (h x (List.mem_cons_self ..))
    rw [size_append] at h1
    simp only [List.foldl_cons, evz]
    omega
theorem text_evz (l : List S24) (h : ∀ x ∈ l, rngX x) : (textOf l).size ≤ evz l := by
  have := text_len l ⟨#[]⟩ h
  have e : (ByteArray.mk #[]).size = 0 := rfl
  unfold textOf
  omega
theorem text_fold (l : List S24) (acc : ByteArray) : l.foldl (fun acc x => acc ++ lineB (wordsX x)) acc = acc ++ textOf l := by
  have key : ∀ (l : List S24) (p acc : ByteArray), l.foldl (fun acc x => acc ++ lineB (wordsX x)) (p ++ acc) = p ++ l.foldl (fun acc x => acc ++ lineB (wordsX x)) acc := by
    intro l
    induction l with
    | nil => intro p acc; rfl
    | cons x l ih => intro p acc; simp only [List.foldl_cons]; rw [ByteArray.append_assoc, ih]
  have := key l acc ⟨#[]⟩
  have e : acc ++ ⟨#[]⟩ = acc := by apply ByteArray.ext; simp
  rw [e] at this
  exact this
theorem text_app (a b : List S24) : textOf (a ++ b) = textOf a ++ textOf b := by
  rw [textOf, List.foldl_append]
  exact text_fold b _
end Go.Proofs.YtiapfhlipoomaaaDoor.Given
end
section
namespace Go.Proofs.YtiapfhlipoomaaaDoor.Given
open Go.RowKit Go.Proofs.YtiapfhlipoomaaaDoorW.PrintWords Go.Proofs.YtiapfhlipoomaaaDoorW.PrintLast Go.Proofs.YtiapfhlipoomaaaDoorW.PrintMore Go.Proofs.YtiapfhlipoomaaaDoor.Print
set_option linter.unusedVariables false
set_option linter.unusedSimpArgs false
theorem dec_digit (d : Nat) (h : d < 10) : (UInt8.ofNat (48 + d)).toNat = 48 + d := by
  rw [UInt8.toNat_ofNat_of_lt' (by show 48 + d < 256; omega)]
theorem parse_dec : ∀ (u : Nat) (r : List UInt8), u < 18446744073709551616 → Lib.parseUint10 0 (Lib.decDigits u ++ r) = Lib.parseUint10 u r := by
  intro u
  induction u using Nat.strongRecOn with
  | ind u ih =>
    intro r hu
    rw [Lib.decDigits]
    by_cases h : u < 10
    · rw [dif_pos h, List.singleton_append, Lib.parseUint10, dec_digit u h, if_pos (by omega), if_neg (by omega), if_neg (by omega)]
      congr 1
      omega
    · rw [dif_neg h, List.append_assoc, ih (u / 10) (by omega) _ (by omega), List.singleton_append, Lib.parseUint10, dec_digit _ (by omega), if_pos (by omega), if_neg (by omega), if_neg (by omega)]
      congr 1
      omega
theorem dec_ne : ∀ (u : Nat), Lib.decDigits u ≠ [] := by
  intro u
  rw [Lib.decDigits]
  split
  · simp
  · simp
theorem dec_bytes : ∀ (u : Nat) (b : UInt8), b ∈ Lib.decDigits u → 48 ≤ b.toNat ∧ b.toNat ≤ 57 := by
  intro u
  induction u using Nat.strongRecOn with
  | ind u ih =>
    intro b hb
    rw [Lib.decDigits] at hb
    by_cases h : u < 10
    · rw [dif_pos h, List.mem_singleton] at hb
      subst hb
      rw [dec_digit u h]
      omega
    · rw [dif_neg h, List.mem_append, List.mem_singleton] at hb
      rcases hb with hb | rfl
      · exact ih (u / 10) (by omega) b hb
      · rw [dec_digit _ (by omega)]
        omega
theorem mag_dec (u : Nat) (hu : u < 18446744073709551616) : Lib.parseMag (Lib.decDigits u) = .ok u := by
  unfold Lib.parseMag
  rw [if_neg (dec_ne u)]
  have := parse_dec u [] hu
  rw [List.append_nil] at this
  rw [this]
  rfl
theorem atoi_itoa (n : Int) (h : -9223372036854775808 ≤ n ∧ n ≤ 9223372036854775807) : Lib.atoiAll (Lib.itoa n) = .ok n := by
  unfold Lib.itoa
  by_cases hn : n < 0
  · rw [if_pos hn]
    unfold Lib.atoiAll
    simp only [show (45 : UInt8).toNat = 45 from rfl, or_true, if_true, not_true, false_and, if_false, true_and]
    rw [mag_dec _ (by omega)]
    simp only
    rw [if_neg (by omega)]
    congr 1
    omega
  · rw [if_neg hn]
    have hm := mag_dec n.toNat (by omega)
    have hb := dec_bytes n.toNat
    cases hd : Lib.decDigits n.toNat with
    | nil => exact absurd hd (dec_ne _)
    | cons c r =>
      rw [hd] at hm hb
      have hc := hb c (by simp)
      unfold Lib.atoiAll
      simp only
      rw [if_neg (by omega), hm]
      simp only
      rw [if_neg (by omega), if_neg (by omega), if_neg (by omega)]
      congr 1
      omega
theorem num_itoa (n : Int) (h : -9223372036854775808 ≤ n ∧ n ≤ 9223372036854775807) : numOf (itoaB n) = some n := by
  unfold numOf
  have e : (itoaB n).data.toList = Lib.itoa n := by simp [itoaB]
  rw [e, atoi_itoa n h]
  simp
theorem idx_hit (c : UInt8) (b : List UInt8) : ∀ (a : List UInt8), c ∉ a → Lib.index (a ++ c :: b) [c] = a.length
  | [], _ => by simp [Lib.index, List.isPrefixOf]
  | x :: a, h => by
    have hx : c ≠ x := fun e => h (by simp [e])
    have ih := idx_hit c b a (fun hm => h (by simp [hm]))
    rw [List.cons_append, Lib.index, ih]
    have hp : ([c] : List UInt8).isPrefixOf (x :: (a ++ c :: b)) = false := by simp [List.isPrefixOf, hx]
    rw [if_neg (by rw [hp]; decide)]
    rw [if_neg (by simp)]
    simp
theorem idx_miss (c : UInt8) : ∀ (a : List UInt8), c ∉ a → Lib.index a [c] = -1
  | [], _ => by simp [Lib.index]
  | x :: a, h => by
    have hx : c ≠ x := fun e => h (by simp [e])
    have ih := idx_miss c a (fun hm => h (by simp [hm]))
    rw [Lib.index, ih]
    have hp : ([c] : List UInt8).isPrefixOf (x :: a) = false := by simp [List.isPrefixOf, hx]
    rw [if_neg (by rw [hp]; decide)]
    rfl
def joinS (w : List UInt8) (ws : List (List UInt8)) : List UInt8 := w ++ ws.flatMap (fun x => 32 :: x)
theorem join_decomp : ∀ (l : List UInt8), ∃ w ws, l = joinS w ws ∧ (32 : UInt8) ∉ w ∧ ∀ x ∈ ws, (32 : UInt8) ∉ x
  | [] => ⟨[], [], rfl, by simp, by simp⟩
  | c :: l => by
    obtain ⟨w, ws, rfl, hw, hws⟩ := join_decomp l
    by_cases hc : c = 32
    · subst hc
      exact ⟨[], w :: ws, by simp [joinS], by simp, fun x hx => (List.mem_cons.1 hx).elim (fun e => e ▸ hw) (hws x)⟩
    · exact ⟨c :: w, ws, by simp [joinS], by simp [hw, Ne.symm hc], hws⟩
theorem join_cons (w x : List UInt8) (ws : List (List UInt8)) : joinS w (x :: ws) = w ++ 32 :: joinS x ws := by simp [joinS]
theorem split_join : ∀ (ws : List (List UInt8)) (w : List UInt8), (32 : UInt8) ∉ w → (∀ x ∈ ws, (32 : UInt8) ∉ x) → Lib.splitK [32] 0 ws.length (joinS w ws) = w :: ws
  | [], w, _, _ => by simp [Lib.splitK, joinS]
  | x :: ws, w, hw, hws => by
    have ih := split_join ws x (hws x (by simp)) (fun y hy => hws y (by simp [hy]))
    rw [List.length_cons, Lib.splitK, join_cons, idx_hit 32 _ w hw]
    rw [if_neg (by simp)]
    have e : ((w.length : Int)).toNat = w.length := by omega
    rw [e]
    simp [ih]
theorem count_join : ∀ (ws : List (List UInt8)) (w : List UInt8) (fuel : Nat), (32 : UInt8) ∉ w → (∀ x ∈ ws, (32 : UInt8) ∉ x) → ws.length < fuel → Lib.countFrom [32] fuel (joinS w ws) = ws.length
  | [], w, fuel + 1, hw, _, _ => by
    unfold Lib.countFrom
    have e : joinS w [] = w := by simp [joinS]
    rw [e, idx_miss 32 w hw]
    rfl
  | x :: ws, w, fuel + 1, hw, hws, hf => by
    have ih := count_join ws x fuel (hws x (by simp)) (fun y hy => hws y (by simp [hy])) (by simpa using hf)
    unfold Lib.countFrom
    rw [join_cons, idx_hit 32 _ w hw, if_neg (by simp)]
    have e : ((w.length : Int)).toNat = w.length := by omega
    rw [e]
    have e2 : (w ++ 32 :: joinS x ws).drop (w.length + ([32] : List UInt8).length) = joinS x ws := by simp
    rw [e2, ih, List.length_cons, Nat.add_comm]
theorem join_length (ws : List (List UInt8)) : ∀ (w : List UInt8), ws.length ≤ (joinS w ws).length := by
  induction ws with
  | nil => intro w; simp
  | cons x ws ih =>
    intro w
    rw [join_cons]
    have := ih x
    simp only [List.length_cons, List.length_append]
    omega
theorem words_join (w : List UInt8) (ws : List (List UInt8)) (hw : (32 : UInt8) ∉ w) (hws : ∀ x ∈ ws, (32 : UInt8) ∉ x) : (wordsL ⟨(joinS w ws).toArray⟩).map (fun b => b.data.toList) = w :: ws := by
  unfold wordsL
  have hc : Lib.countB ⟨(joinS w ws).toArray⟩ space = ws.length := by
    show Lib.countFrom [32] ((joinS w ws).toArray.toList.length + 1) (joinS w ws).toArray.toList = ws.length
    rw [List.toList_toArray]
    exact count_join ws w _ hw hws (Nat.lt_succ_of_le (join_length ws w))
  rw [hc]
  have := Lib.splitB_data space 0 ws.length ⟨(joinS w ws).toArray⟩
  rw [show ((⟨(joinS w ws).toArray⟩ : ByteArray).data.toList) = joinS w ws by simp, show space.data.toList = [32] from rfl, split_join ws w hw hws] at this
  exact this
theorem bytes_ext {a b : ByteArray} (h : a.data.toList = b.data.toList) : a = b := by
  cases a with | mk da => cases b with | mk db =>
  have : da = db := Array.ext' h
  rw [this]
theorem map_ext : ∀ {l l' : List ByteArray}, l.map (fun b => b.data.toList) = l'.map (fun b => b.data.toList) → l = l'
  | [], [], _ => rfl
  | [], _ :: _, h => by simp at h
  | _ :: _, [], h => by simp at h
  | a :: l, b :: l', h => by
    simp only [List.map_cons, List.cons.injEq] at h
    rw [bytes_ext h.1, map_ext h.2]
theorem app_list (a b : ByteArray) : (a ++ b).data.toList = a.data.toList ++ b.data.toList := by simp [ByteArray.data_append]
theorem nums_itoa : ∀ (n : List Int), (∀ x ∈ n, -9223372036854775808 ≤ x ∧ x ≤ 9223372036854775807) → numsIn (n.map itoaB) = some n
  | [], _ => rfl
  | x :: n, h => by
    have ih := nums_itoa n (fun y hy => h y (by simp [hy]))
    rw [List.map_cons, numsIn, num_itoa x (h x (by simp)), ih]
theorem nums_inv : ∀ (l : List ByteArray) (n : List Int), numsIn l = some n → l = n.map itoaB ∧ ∀ x ∈ n, -9223372036854775808 ≤ x ∧ x ≤ 9223372036854775807
  | [], n, h => by
    injection h with h
    subst h
    exact ⟨rfl, by simp⟩
  | t :: r, n, h => by
    unfold numsIn at h
    cases ha : numOf t with
    | none => rw [ha] at h; cases h
    | some v =>
      cases hr : numsIn r with
      | none => rw [ha, hr] at h; cases h
      | some l =>
        rw [ha, hr] at h
        injection h with h
        subst h
        obtain ⟨h1, h2⟩ := nums_inv r l hr
        obtain ⟨h3, h4⟩ := numOf_some ha
        have ht : t = itoaB v := bytes_ext (by rw [← Lib.toList_data, ← Lib.toList_data, h4])
        refine ⟨by rw [List.map_cons, ← h1, ← ht], fun x hx => ?_⟩
        rcases List.mem_cons.1 hx with rfl | hx
        · exact h3
        · exact h2 x hx
end Go.Proofs.YtiapfhlipoomaaaDoor.Given
end
section
namespace Go.Proofs.YtiapfhlipoomaaaDoor.Given
open Go.RowKit Go.Proofs.YtiapfhlipoomaaaDoorW.PrintWords Go.Proofs.YtiapfhlipoomaaaDoorW.PrintLast Go.Proofs.YtiapfhlipoomaaaDoorW.PrintMore Go.Proofs.YtiapfhlipoomaaaDoor.Print
set_option linter.unusedVariables false
set_option linter.unusedSimpArgs false
abbrev Rng (n : Int) : Prop := -9223372036854775808 ≤ n ∧ n ≤ 9223372036854775807
theorem itoa_small (n : Int) (b : UInt8) (hb : b ∈ Lib.itoa n) : 45 ≤ b.toNat ∧ b.toNat ≤ 57 := by
  unfold Lib.itoa at hb
  split at hb
  · rcases List.mem_cons.1 hb with rfl | hb
    · decide
    · have := dec_bytes _ b hb
      omega
  · have := dec_bytes _ b hb
    omega
def fineB (b : UInt8) : Bool := decide (b.toNat < 128) && decide (b.toNat ≠ 32) && decide (b.toNat ≠ 10)
theorem fine_itoa (n : Int) : ∀ b ∈ (itoaB n).data.toList, fineB b = true := by
  intro b hb
  have e : (itoaB n).data.toList = Lib.itoa n := by simp [itoaB]
  rw [e] at hb
  have := itoa_small n b hb
  unfold fineB
  simp
  omega
theorem fine_word (k : Nat) : ∀ b ∈ (wordB k).data.toList, fineB b = true := by
  unfold wordB
  split <;> decide
theorem fine_some (k i : Nat) : ∀ b ∈ ((wsK k).getD i ⟨#[]⟩).data.toList, fineB b = true := by
  have key : ∀ (l : List ByteArray), (∀ x ∈ l, ∀ b ∈ x.data.toList, fineB b = true) → ∀ b ∈ (l.getD i ⟨#[]⟩).data.toList, fineB b = true := by
    intro l h
    rw [List.getD_eq_getElem?_getD]
    rcases hx : l[i]? with _ | x
    · intro b hb
      cases hb
    · exact h x (List.mem_of_getElem? hx)
  refine key _ ?_
  unfold wsK
  split <;> decide
theorem fine_words (x : S24) : ∀ t ∈ wordsX x, ∀ b ∈ t.data.toList, fineB b = true := by
  intro t ht
  unfold wordsX wordsK wordsF wordsM at ht
  rcases List.mem_append.1 ht with ht | ht
  · rcases List.mem_append.1 ht with ht | ht
    · rcases List.mem_cons.1 ht with rfl | ht
      · exact fine_word _
      · obtain ⟨o, _, rfl⟩ := List.mem_map.1 ht
        exact fine_itoa _
    · split at ht
      · rw [List.mem_singleton] at ht
        subst ht
        exact fine_itoa _
      · split at ht
        · rw [List.mem_singleton] at ht
          subst ht
          exact fine_some _ _
        · cases ht
  · obtain ⟨o, _, rfl⟩ := List.mem_map.1 ht
    exact fine_itoa _
theorem fine_no {t : ByteArray} (h : ∀ b ∈ t.data.toList, fineB b = true) : (32 : UInt8) ∉ t.data.toList := fun hm => by
  have := h 32 hm
  exact absurd this (by decide)
theorem join_list : ∀ (ws : List (List UInt8)) (w : List UInt8), Lib.join (w :: ws) [32] = joinS w ws
  | [], w => by simp [Lib.join, List.intercalate, joinS]
  | x :: ws, w => by
    have ih := join_list ws x
    rw [join_cons, ← ih]
    simp [Lib.join, List.intercalate, List.intersperse]
theorem join_bytes (w : ByteArray) (ws : List ByteArray) : (joinB (w :: ws)).data.toList = joinS w.data.toList (ws.map (fun b => b.data.toList)) := by
  show (Lib.join ((w :: ws).map (fun b => b.data.toList)) [32]).toArray.toList = _
  rw [List.toList_toArray, List.map_cons, join_list]
theorem words_line (w : ByteArray) (ws : List ByteArray) (h : ∀ t ∈ w :: ws, (32 : UInt8) ∉ t.data.toList) : wordsL (joinB (w :: ws)) = w :: ws := by
  apply map_ext
  have e : joinB (w :: ws) = ⟨(joinS w.data.toList (ws.map (fun b => b.data.toList))).toArray⟩ := bytes_ext (by rw [join_bytes])
  rw [e, words_join _ _ (h w (by simp)) (fun x hx => by
    obtain ⟨t, ht, rfl⟩ := List.mem_map.1 hx
    exact h t (by simp [ht]))]
  rfl
theorem line_words (t : ByteArray) : ∃ w ws, wordsL t = w :: ws ∧ joinB (w :: ws) = t := by
  obtain ⟨w, ws, he, hw, hws⟩ := join_decomp t.data.toList
  have ht : t = ⟨(joinS w ws).toArray⟩ := bytes_ext (by rw [he])
  have hj := words_join w ws hw hws
  rw [← ht] at hj
  cases hl : wordsL t with
  | nil => rw [hl] at hj; simp at hj
  | cons a l =>
    rw [hl] at hj
    simp only [List.map_cons, List.cons.injEq] at hj
    refine ⟨a, l, rfl, bytes_ext ?_⟩
    rw [join_bytes, hj.1, hj.2, he]
theorem kinds_there : ∀ k : Fin 12, 1 ≤ k.val → kindOf (wordB k.val) = some k.val := by decide +kernel
theorem kind_there (k : Nat) (h1 : 1 ≤ k) (h2 : k ≤ 11) : kindOf (wordB k) = some k := kinds_there ⟨k, by omega⟩ h1
theorem kind_from_back (t : ByteArray) : ∀ (m k0 k : Nat), kindFrom t m k0 = some k → k0 ≤ k ∧ k < k0 + m ∧ (wordB k).toList = t.toList
  | 0, _, _, h => by cases h
  | m + 1, k0, k, h => by
    unfold kindFrom at h
    split at h
    · injection h with h
      subst h
      exact ⟨by omega, by omega, by assumption⟩
    · have := kind_from_back t m (k0 + 1) k h
      exact ⟨by omega, by omega, this.2.2⟩
theorem kind_back (t : ByteArray) (k : Nat) (h : kindOf t = some k) : 1 ≤ k ∧ k ≤ 11 ∧ wordB k = t := by
  obtain ⟨h1, h2, h3⟩ := kind_from_back t 11 1 k h
  exact ⟨h1, by omega, bytes_ext (by rw [← Lib.toList_data, ← Lib.toList_data, h3])⟩
theorem eleven {k : Nat} (h1 : 1 ≤ k) (h2 : k ≤ 11) : k = 1 ∨ k = 2 ∨ k = 3 ∨ k = 4 ∨ k = 5 ∨ k = 6 ∨ k = 7 ∨ k = 8 ∨ k = 9 ∨ k = 10 ∨ k = 11 := by omega
def wordsR (k : Nat) (x : S24) : List ByteArray := if clsK k = 2 then [(wsK k).getD x.f6.toNat ⟨#[]⟩] else []
theorem words_parts (k : Nat) (x : S24) : wordsK k x = wordB k :: ((atK k).map (fun o => itoaB (getK x o)) ++ (wordsR k x ++ x.f7.map itoaB)) := by
  unfold wordsK wordsF wordsM wordsR atK
  by_cases c1 : clsK k = 1
  · rw [if_pos c1, if_pos c1, if_neg (by omega)]
    simp
    rfl
  · rw [if_neg c1, if_neg c1]
    simp
theorem fill_there : ∀ (os : List Nat) (x0 y : S24) (r : List ByteArray), (∀ o ∈ os, Rng (getK y o)) → fillNums os (os.map (fun o => itoaB (getK y o)) ++ r) x0 = some (os.foldl (fun x o => setK x (getK y o) o) x0, r)
  | [], x0, y, r, _ => by simp [fillNums]
  | o :: os, x0, y, r, h => by
    have ih := fill_there os (setK x0 (getK y o) o) y r (fun p hp => h p (by simp [hp]))
    simp only [List.map_cons, List.cons_append, fillNums, num_itoa _ (h o (by simp)), List.foldl_cons]
    exact ih
def setAll (x0 : S24) : List Nat → List Int → S24
  | o :: os, n :: ns => setAll (setK x0 n o) os ns
  | _, _ => x0
theorem fill_back : ∀ (os : List Nat) (x0 x1 : S24) (ws r : List ByteArray), fillNums os ws x0 = some (x1, r) → ∃ ns : List Int, ns.length = os.length ∧ ws = ns.map itoaB ++ r ∧ (∀ n ∈ ns, Rng n) ∧ x1 = setAll x0 os ns
  | [], x0, x1, ws, r, h => by
    simp only [fillNums, Option.some.injEq, Prod.mk.injEq] at h
    obtain ⟨rfl, rfl⟩ := h
    exact ⟨[], rfl, rfl, by simp, rfl⟩
  | o :: os, x0, x1, [], r, h => by cases h
  | o :: os, x0, x1, t :: ws, r, h => by
    unfold fillNums at h
    split at h
    · rename_i n hn
      obtain ⟨ns, h1, h2, h3, h4⟩ := fill_back os _ x1 ws r h
      obtain ⟨h5, h6⟩ := numOf_some hn
      have ht : t = itoaB n := bytes_ext (by rw [← Lib.toList_data, ← Lib.toList_data, h6])
      refine ⟨n :: ns, by simp [h1], by rw [ht, h2]; rfl, fun m hm => ?_, h4⟩
      rcases List.mem_cons.1 hm with rfl | hm
      · exact h5
      · exact h3 m hm
    · cases h
theorem get_set_or (x : S24) (n : Int) (o p : Nat) : getK (setK x n o) p = n ∨ getK (setK x n o) p = getK x p := by
  unfold setK
  split <;> (unfold getK; split <;> simp)
theorem set_rng (x : S24) (n : Int) (o : Nat) (hn : Rng n) (h : ∀ p, p ≤ 6 → Rng (getK x p)) : ∀ p, p ≤ 6 → Rng (getK (setK x n o) p) := fun p hp => by
  rcases get_set_or x n o p with e | e <;> rw [e]
  · exact hn
  · exact h p hp
theorem all_rng : ∀ (os : List Nat) (ns : List Int) (x : S24), (∀ n ∈ ns, Rng n) → (∀ p, p ≤ 6 → Rng (getK x p)) → ∀ p, p ≤ 6 → Rng (getK (setAll x os ns) p)
  | [], ns, x, _, h => h
  | _ :: _, [], x, _, h => h
  | o :: os, n :: ns, x, hn, h => all_rng os ns (setK x n o) (fun m hm => hn m (by simp [hm])) (set_rng x n o (hn n (by simp)) h)
theorem all_f0 : ∀ (os : List Nat) (ns : List Int) (x : S24), (setAll x os ns).f0 = x.f0
  | [], ns, x => rfl
  | _ :: _, [], x => rfl
  | o :: os, n :: ns, x => by rw [setAll, all_f0 os ns, setK_f0]
theorem len1 {α : Type} {l : List α} (h : l.length = 1) : ∃ a, l = [a] := by
  match l, h with
  | [a], _ => exact ⟨a, rfl⟩
theorem len2 {α : Type} {l : List α} (h : l.length = 2) : ∃ a b, l = [a, b] := by
  match l, h with
  | [a, b], _ => exact ⟨a, b, rfl⟩
theorem len3 {α : Type} {l : List α} (h : l.length = 3) : ∃ a b c, l = [a, b, c] := by
  match l, h with
  | [a, b, c], _ => exact ⟨a, b, c, rfl⟩
theorem len5 {α : Type} {l : List α} (h : l.length = 5) : ∃ a b c d e, l = [a, b, c, d, e] := by
  match l, h with
  | [a, b, c, d, e], _ => exact ⟨a, b, c, d, e, rfl⟩
theorem all_get (k : Nat) (h1 : 1 ≤ k) (h2 : k ≤ 11) (ns : List Int) (x : S24) (n6 : Int) (l : List Int) (hn : ns.length = (atK k).length) :
    (atK k).map (fun o => getK (setAll x (atK k) ns) o) = ns ∧ (clsK k = 2 → (atK k).map (fun o => getK (setK (setAll x (atK k) ns) n6 6) o) = ns) := by
  rcases eleven h1 h2 with rfl | rfl | rfl | rfl | rfl | rfl | rfl | rfl | rfl | rfl | rfl
  · obtain ⟨a, b, rfl⟩ := len2 hn
    exact ⟨rfl, fun _ => rfl⟩
  · obtain ⟨a, b, c, d, e, rfl⟩ := len5 hn
    exact ⟨rfl, fun _ => rfl⟩
  · obtain ⟨a, b, c, rfl⟩ := len3 hn
    exact ⟨rfl, fun h => by cases h⟩
  · obtain ⟨a, b, c, rfl⟩ := len3 hn
    exact ⟨rfl, fun h => by cases h⟩
  · obtain ⟨a, rfl⟩ := len1 hn
    exact ⟨rfl, fun _ => rfl⟩
  · obtain ⟨a, rfl⟩ := len1 hn
    exact ⟨rfl, fun _ => rfl⟩
  · obtain rfl := List.length_eq_zero_iff.1 hn
    exact ⟨rfl, fun _ => rfl⟩
  · obtain rfl := List.length_eq_zero_iff.1 hn
    exact ⟨rfl, fun _ => rfl⟩
  · obtain rfl := List.length_eq_zero_iff.1 hn
    exact ⟨rfl, fun _ => rfl⟩
  · obtain ⟨a, rfl⟩ := len1 hn
    exact ⟨rfl, fun _ => rfl⟩
  · obtain ⟨a, rfl⟩ := len1 hn
    exact ⟨rfl, fun _ => rfl⟩
def madeK (k : Nat) (y : S24) : S24 := (atK k).foldl (fun x o => setK x (getK y o) o) ⟨k, 0, 0, 0, 0, 0, 0, []⟩
theorem some_there : ∀ k : Fin 12, ∀ i : Fin 7, clsK k.val = 2 → 1 ≤ i.val → i.val < (wsK k.val).length → ((wsK k.val).getD i.val ⟨#[]⟩).toList ≠ [] ∧ idxB (wsK k.val) ((wsK k.val).getD i.val ⟨#[]⟩) 0 = (i.val : Int) := by decide +kernel
theorem ok_some {k : Nat} {x : S24} (h : okK k x = true) (hc : clsK k = 2) : 1 ≤ x.f6 ∧ x.f6 < ((wsK k).length : Int) ∧ (wsK k).length ≤ 7 := by
  refine ⟨?_, ?_, ws_len k⟩
  · unfold clsK at hc
    split at hc <;> first | exact absurd hc (by decide) | (simp [okK] at h; omega)
  · unfold clsK at hc
    split at hc <;> first | exact absurd hc (by decide) | (simp [okK] at h; simp [wsK]; omega)
theorem made_ok (k : Nat) (h1 : 1 ≤ k) (h2 : k ≤ 11) (y : S24) (hf : y.f0 = k) (h : okK k y = true) : (⟨(if clsK k = 2 then setK (madeK k y) y.f6 6 else madeK k y).f0, (if clsK k = 2 then setK (madeK k y) y.f6 6 else madeK k y).f1, (if clsK k = 2 then setK (madeK k y) y.f6 6 else madeK k y).f2, (if clsK k = 2 then setK (madeK k y) y.f6 6 else madeK k y).f3, (if clsK k = 2 then setK (madeK k y) y.f6 6 else madeK k y).f4, (if clsK k = 2 then setK (madeK k y) y.f6 6 else madeK k y).f5, (if clsK k = 2 then setK (madeK k y) y.f6 6 else madeK k y).f6, y.f7⟩ : S24) = y := by
  obtain ⟨y0, y1, y2, y3, y4, y5, y6, y7⟩ := y
  simp only at hf
  subst hf
  rcases eleven h1 h2 with rfl | rfl | rfl | rfl | rfl | rfl | rfl | rfl | rfl | rfl | rfl <;> simp [okK] at h <;> simp [madeK, atK, foK, clsK, setK, getK] <;> simp [h]
theorem fill_of_there (k : Nat) (h1 : 1 ≤ k) (h2 : k ≤ 11) (y : S24) (hf : y.f0 = k) (h : okK k y = true) (hr : rngX y) : fillOf k ((atK k).map (fun o => itoaB (getK y o)) ++ (wordsR k y ++ y.f7.map itoaB)) = some y := by
  have hm := made_ok k h1 h2 y hf h
  have hok : okX y = true := by
    unfold okX
    rw [hf, decide_eq_true (by omega), Int.toNat_natCast, h]
    rfl
  unfold fillOf
  rw [fill_there _ _ _ _ (fun o ho => hr.1 o (at_le k o ho).2), Option.bind_some]
  have hw : fillWord k (madeK k y, wordsR k y ++ y.f7.map itoaB) = some ((if clsK k = 2 then setK (madeK k y) y.f6 6 else madeK k y), y.f7.map itoaB) := by
    unfold fillWord wordsR
    by_cases hc : clsK k = 2
    · obtain ⟨o1, o2, o3⟩ := ok_some h hc
      obtain ⟨s1, s2⟩ := some_there ⟨k, by omega⟩ ⟨y.f6.toNat, by omega⟩ hc (by show 1 ≤ y.f6.toNat; omega) (show y.f6.toNat < (wsK k).length by omega)
      simp only at s1 s2
      rw [if_pos hc, if_pos hc, if_pos hc]
      simp only [List.cons_append, List.nil_append]
      rw [if_neg s1, s2, Int.toNat_of_nonneg (by omega)]
    · rw [if_neg hc, if_neg hc, if_neg hc]
      rfl
  have e : (atK k).foldl (fun x o => setK x (getK y o) o) ⟨k, 0, 0, 0, 0, 0, 0, []⟩ = madeK k y := rfl
  rw [e, hw, Option.bind_some]
  unfold fillRest
  simp only
  rw [nums_itoa _ hr.2, Option.bind_some]
  rw [hm, if_pos hok]
theorem one_there (x : S24) (h : okX x = true) (hr : rngX x) : oneOf (joinB (wordsX x)) = some x := by
  have hx := h
  unfold okX at hx
  rw [Bool.and_eq_true] at hx
  obtain ⟨h0, hk⟩ := hx
  have h0 := of_decide_eq_true h0
  have hp := words_parts x.f0.toNat x
  have hw : wordsL (joinB (wordsX x)) = wordsX x := by
    have := fine_words x
    unfold wordsX at this ⊢
    rw [hp] at this ⊢
    exact words_line _ _ (fun t ht => fine_no (this t ht))
  unfold oneOf
  rw [hw]
  unfold wordsX
  rw [hp, List.headD_cons, List.tail_cons, kind_there _ (by omega) (by omega), Option.bind_some]
  exact fill_of_there _ (by omega) (by omega) x (by omega) hk hr
theorem idx_back : ∀ (l : List ByteArray) (t : ByteArray) (k : Nat), 0 ≤ idxB l t k → ∃ j : Nat, idxB l t k = ((k + j : Nat) : Int) ∧ l.getD j ⟨#[]⟩ = t ∧ j < l.length
  | [], t, k, h => by
    unfold idxB at h
    omega
  | a :: l, t, k, h => by
    unfold idxB at h ⊢
    by_cases e : t.toList = a.toList
    · rw [if_pos e]
      exact ⟨0, rfl, bytes_ext (by rw [← Lib.toList_data, ← Lib.toList_data, e]; rfl), by simp⟩
    · rw [if_neg e] at h ⊢
      obtain ⟨j, h1, h2, h3⟩ := idx_back l t (k + 1) h
      exact ⟨j + 1, by rw [h1]; congr 1; omega, by simpa using h2, by simp; omega⟩
theorem fill_of_back (k : Nat) (h1 : 1 ≤ k) (h2 : k ≤ 11) (ws : List ByteArray) (x : S24) (h : fillOf k ws = some x) : x.f0 = k ∧ okX x = true ∧ rngX x ∧ wordsK k x = wordB k :: ws := by
  unfold fillOf at h
  obtain ⟨⟨x2, r2⟩, h, h3⟩ := Option.bind_eq_some_iff.1 h
  obtain ⟨⟨x1, r1⟩, hn, hw⟩ := Option.bind_eq_some_iff.1 h
  obtain ⟨ns, n1, n2, n3, n4⟩ := fill_back _ _ _ _ _ hn
  unfold fillRest at h3
  simp only at h3
  obtain ⟨l, l1, l2⟩ := Option.bind_eq_some_iff.1 h3
  obtain ⟨l3, l4⟩ := nums_inv r2 l l1
  have hx1 : ∀ p, p ≤ 6 → Rng (getK x1 p) := by
    rw [n4]
    exact all_rng _ _ _ n3 (fun p hp => by
      have : getK (⟨(k : Int), 0, 0, 0, 0, 0, 0, []⟩ : S24) p = 0 ∨ getK (⟨(k : Int), 0, 0, 0, 0, 0, 0, []⟩ : S24) p = (k : Int) := by
        unfold getK
        split <;> simp
      unfold Rng
      omega)
  have hf1 : x1.f0 = (k : Int) := by rw [n4, all_f0]
  have hg := fun n6 => all_get k h1 h2 ns ⟨k, 0, 0, 0, 0, 0, 0, []⟩ n6 [] n1
  split at l2
  · rename_i hok
    injection l2 with l2
    have hgx : ∀ p, getK x p = getK x2 p := fun p => by rw [← l2]; unfold getK; split <;> rfl
    have hf7 : x.f7 = l := by rw [← l2]
    have hok2 : okX x = true := by rw [← l2]; exact hok
    unfold fillWord at hw
    rw [words_parts]
    unfold wordsR
    by_cases hc : clsK k = 2
    · rw [if_pos hc] at hw ⊢
      simp only at hw
      split at hw
      · cases hw
      · rename_i t r
        split at hw
        · cases hw
        · simp only [Option.some.injEq, Prod.mk.injEq] at hw
          obtain ⟨w1, w2⟩ := hw
          have hf0 : x.f0 = (k : Int) := by rw [← l2, ← w1, setK_f0, hf1]
          have h6 : x.f6 = idxB (wsK k) t 0 := by rw [← l2, ← w1]; rfl
          have hokk : okK k x = true := by
            unfold okX at hok2
            rw [Bool.and_eq_true, hf0, Int.toNat_natCast] at hok2
            exact hok2.2
          obtain ⟨o1, o2, o3⟩ := ok_some hokk hc
          obtain ⟨j, j1, j2, j3⟩ := idx_back (wsK k) t 0 (by omega)
          have hj : x.f6.toNat = j := by omega
          refine ⟨hf0, hok2, ⟨fun p hp => ?_, by rw [hf7]; exact l4⟩, ?_⟩
          · rw [hgx, ← w1]
            exact set_rng _ _ _ (by unfold Rng; omega) hx1 p hp
          · have hm : (atK k).map (fun o => itoaB (getK x o)) = ns.map itoaB := by
              have := (hg (idxB (wsK k) t 0)).2 hc
              rw [← n4, w1] at this
              have e : (atK k).map (fun o => itoaB (getK x o)) = ((atK k).map (fun o => getK x2 o)).map itoaB := by
                rw [List.map_map]
                apply List.map_congr_left
                intro o _
                show itoaB (getK x o) = itoaB (getK x2 o)
                rw [hgx]
              rw [e, this]
            rw [hm, hj, j2, hf7, ← l3, ← w2, n2]
            simp
    · rw [if_neg hc] at hw ⊢
      simp only [Option.some.injEq, Prod.mk.injEq] at hw
      obtain ⟨w1, w2⟩ := hw
      refine ⟨by rw [← l2, ← w1]; exact hf1, hok2, ⟨fun p hp => by rw [hgx, ← w1]; exact hx1 p hp, by rw [hf7]; exact l4⟩, ?_⟩
      have hm : (atK k).map (fun o => itoaB (getK x o)) = ns.map itoaB := by
        have := (hg 0).1
        rw [← n4, w1] at this
        have e : (atK k).map (fun o => itoaB (getK x o)) = ((atK k).map (fun o => getK x2 o)).map itoaB := by
          rw [List.map_map]
          apply List.map_congr_left
          intro o _
          show itoaB (getK x o) = itoaB (getK x2 o)
          rw [hgx]
        rw [e, this]
      rw [hm, hf7, ← l3, ← w2, n2]
      simp
  · cases l2
theorem one_back (t : ByteArray) (x : S24) (h : oneOf t = some x) : joinB (wordsX x) = t ∧ okX x = true ∧ rngX x := by
  obtain ⟨w, ws, hl, hj⟩ := line_words t
  unfold oneOf at h
  rw [hl, List.headD_cons, List.tail_cons] at h
  obtain ⟨k, hk, hf⟩ := Option.bind_eq_some_iff.1 h
  obtain ⟨k1, k2, rfl⟩ := kind_back w k hk
  obtain ⟨f1, f2, f3, f4⟩ := fill_of_back k k1 k2 ws x hf
  refine ⟨?_, f2, f3⟩
  unfold wordsX
  rw [f1, Int.toNat_natCast, f4, hj]
end Go.Proofs.YtiapfhlipoomaaaDoor.Given
end
section
namespace Go.Proofs.YtiapfhlipoomaaaDoor.Given
open Go.RowKit Go.Proofs.YtiapfhlipoomaaaDoorW.PrintWords Go.Proofs.YtiapfhlipoomaaaDoorW.PrintLast Go.Proofs.YtiapfhlipoomaaaDoorW.PrintMore Go.Proofs.YtiapfhlipoomaaaDoor.Print
set_option linter.unusedVariables false
set_option linter.unusedSimpArgs false
theorem list_size (b : ByteArray) : b.data.toList.length = b.size := Array.length_toList
theorem ext_list (s : ByteArray) (a b : Nat) : (s.extract a b).data.toList = (s.data.toList.drop a).take (b - a) := by
  rw [ByteArray.data_extract, Array.toList_extract, List.extract_eq_take_drop]
theorem dec_low (s : ByteArray) (pos : Nat) (b : UInt8) (h : s.data.toList[pos]? = some b) (hb : b.toNat < 128) : pos < s.size ∧ Utf8.decode s pos = (b.toNat, 1) := by
  obtain ⟨h1, h2⟩ := List.getElem?_eq_some_iff.1 h
  have hp : pos < s.size := by rwa [list_size] at h1
  have e : s[pos]'hp = b := h2
  have := decode_ascii s pos hp (by rw [e]; exact hb)
  rw [e] at this
  exact ⟨hp, this⟩
theorem dec_ten (s : ByteArray) (pos : Nat) (hp : pos < s.size) (h : (Utf8.decode s pos).1 = 10) : s.data.toList[pos]? = some 10 ∧ (Utf8.decode s pos).2 = 1 := by
  by_cases ha : (s[pos]'hp).toNat < 128
  · have e := decode_ascii s pos hp ha
    rw [e] at h ⊢
    refine ⟨?_, rfl⟩
    have e2 : s[pos]'hp = 10 := UInt8.toNat_inj.1 h
    rw [List.getElem?_eq_getElem (by rw [list_size]; exact hp)]
    exact congrArg some e2
  · have := decode_high s pos hp (by omega)
    omega
def lowB (b : UInt8) : Prop := b.toNat < 128 ∧ b.toNat ≠ 10
theorem fine_low {b : UInt8} (h : fineB b = true) : lowB b := by
  unfold fineB at h
  simp at h
  exact ⟨h.1.1, h.2⟩
theorem joinS_low : ∀ (ws : List (List UInt8)) (w : List UInt8), (∀ b ∈ w, lowB b) → (∀ t ∈ ws, ∀ b ∈ t, lowB b) → ∀ b ∈ joinS w ws, lowB b := by
  intro ws w hw hws b hb
  unfold joinS at hb
  rcases List.mem_append.1 hb with hb | hb
  · exact hw b hb
  · obtain ⟨t, ht, hb⟩ := List.mem_flatMap.1 hb
    rcases List.mem_cons.1 hb with rfl | hb
    · exact ⟨by decide, by decide⟩
    · exact hws t ht b hb
theorem words_cons (x : S24) : ∃ w ws, wordsX x = w :: ws := ⟨_, _, words_parts x.f0.toNat x⟩
theorem line_low (x : S24) : ∀ b ∈ (joinB (wordsX x)).data.toList, lowB b := by
  obtain ⟨w, ws, e⟩ := words_cons x
  have hf := fine_words x
  rw [e] at hf ⊢
  rw [join_bytes]
  refine joinS_low _ _ (fun b hb => fine_low (hf w (by simp) b hb)) (fun t ht b hb => ?_)
  obtain ⟨u, hu, rfl⟩ := List.mem_map.1 ht
  exact fine_low (hf u (by simp [hu]) b hb)
theorem drop_get {l a r : List UInt8} {b : UInt8} {pos : Nat} (h : l.drop pos = b :: r) : l[pos]? = some b := by
  have : (l.drop pos)[0]? = some b := by rw [h]; rfl
  simpa [List.getElem?_drop] using this
theorem drop_next {l r : List UInt8} {b : UInt8} {pos : Nat} (h : l.drop pos = b :: r) : l.drop (pos + 1) = r := by
  have : (l.drop pos).drop 1 = r := by rw [h]; rfl
  rwa [List.drop_drop] at this
theorem run_skip (s : ByteArray) (out : List S24) (fr : Nat) : ∀ (line : List UInt8) (pos m : Nat) (rest : List UInt8), s.data.toList.drop pos = line ++ rest → (∀ b ∈ line, lowB b) → parseRun s (m + line.length) pos fr out = parseRun s m (pos + line.length) fr out
  | [], pos, m, rest, _, _ => rfl
  | b :: line, pos, m, rest, h, hl => by
    obtain ⟨l1, l2⟩ := hl b (by simp)
    obtain ⟨hp, hd⟩ := dec_low s pos b (drop_get (a := []) h) l1
    have ih := run_skip s out fr line (pos + 1) m rest (drop_next h) (fun c hc => hl c (by simp [hc]))
    rw [show m + (b :: line).length = (m + line.length) + 1 by simp; omega, parseRun, if_pos hp, hd]
    simp only
    rw [if_neg l2, ih, show pos + 1 + line.length = pos + (b :: line).length by simp; omega]
theorem take_app {l a b : List UInt8} {fr : Nat} (h : l.drop fr = a ++ b) : (l.drop fr).take a.length = a := by
  rw [h]
  simp
theorem run_line (s : ByteArray) (out : List S24) (fr m : Nat) (x : S24) (rest : List UInt8) (h : s.data.toList.drop fr = (joinB (wordsX x)).data.toList ++ 10 :: rest) (hok : okX x = true) (hr : rngX x) :
    parseRun s (m + 1 + (joinB (wordsX x)).size) fr fr out = parseRun s m (fr + (joinB (wordsX x)).size + 1) (fr + (joinB (wordsX x)).size + 1) (out ++ [x]) := by
  have hs := run_skip s out fr _ fr (m + 1) (10 :: rest) h (line_low x)
  rw [list_size] at hs
  have hd2 : s.data.toList.drop (fr + (joinB (wordsX x)).size) = 10 :: rest := by
    have : (s.data.toList.drop fr).drop (joinB (wordsX x)).data.toList.length = 10 :: rest := by rw [h]; simp
    rwa [List.drop_drop, list_size] at this
  obtain ⟨hp, hd⟩ := dec_low s _ 10 (drop_get (a := []) hd2) (by decide)
  have he : s.extract fr (fr + (joinB (wordsX x)).size) = joinB (wordsX x) := bytes_ext (by
    rw [ext_list, Nat.add_sub_cancel_left, ← list_size]
    exact take_app h)
  rw [hs, parseRun, if_pos hp, hd, if_pos (show (UInt8.toNat 10, 1).fst = 10 by decide), he, one_there x hok hr]
theorem text_cons (x : S24) (l : List S24) : textOf (x :: l) = lineB (wordsX x) ++ textOf l := by
  have := text_app [x] l
  rw [List.singleton_append] at this
  rw [this]
  have e : textOf [x] = textOf [] ++ lineB (wordsX x) := textOf_snoc [] x
  have e2 : textOf [] ++ lineB (wordsX x) = lineB (wordsX x) := bytes_ext (by rw [app_list]; rfl)
  rw [e, e2]
theorem line_bytes (x : S24) : (lineB (wordsX x)).data.toList = (joinB (wordsX x)).data.toList ++ [10] := by
  unfold lineB
  rw [app_list]
theorem run_text (s : ByteArray) : ∀ (l : List S24) (out : List S24) (fr m : Nat), s.data.toList.drop fr = (textOf l).data.toList → (∀ x ∈ l, okX x = true ∧ rngX x) → parseRun s (m + 1 + (textOf l).size) fr fr out = (out ++ l, 0, 0)
  | [], out, fr, m, h, _ => by
    have e : (textOf []).data.toList = [] := rfl
    rw [e] at h
    have h2 := List.drop_eq_nil_iff.1 h
    rw [list_size] at h2
    rw [show m + 1 + (textOf []).size = m + 1 from rfl, parseRun, if_neg (by omega), if_neg (by omega), List.append_nil]
  | x :: l, out, fr, m, h, hg => by
    obtain ⟨h1, h2⟩ := hg x (by simp)
    rw [text_cons, app_list, line_bytes, List.append_assoc, List.singleton_append] at h
    have hl := run_line s out fr (m + 1 + (textOf l).size) x _ h h1 h2
    have hd2 : s.data.toList.drop (fr + (joinB (wordsX x)).size + 1) = (textOf l).data.toList := by
      have : (s.data.toList.drop fr).drop ((joinB (wordsX x)).data.toList.length + 1) = (textOf l).data.toList := by rw [h, ← List.drop_drop]; simp
      rwa [List.drop_drop, list_size, ← Nat.add_assoc] at this
    have ih := run_text s l (out ++ [x]) _ m hd2 (fun y hy => hg y (by simp [hy]))
    rw [show m + 1 + (textOf (x :: l)).size = m + 1 + (textOf l).size + 1 + (joinB (wordsX x)).size by rw [text_cons, size_append, lineB_size]; omega, hl, ih]
    simp
theorem parse_there (l : List S24) (h : ∀ x ∈ l, okX x = true ∧ rngX x) : parseOf (textOf l) = (l, 0, 0) := by
  unfold parseOf
  have := run_text (textOf l) l [] 0 0 rfl h
  rw [show (textOf l).size + 1 = 0 + 1 + (textOf l).size by omega, this]
  rfl
theorem run_back (s : ByteArray) : ∀ (m pos fr : Nat) (out : List S24), s.size + 1 ≤ pos + m → 1 ≤ m → fr ≤ pos → fr ≤ s.size → (textOf out).data.toList = s.data.toList.take fr → (∀ x ∈ out, okX x = true ∧ rngX x) →
    (∃ r, parseRun s m pos fr out = (r, 0, 0) ∧ (∀ x ∈ r, okX x = true ∧ rngX x) ∧ textOf r = s) ∨ ∃ n : Nat, 1 ≤ n ∧ parseRun s m pos fr out = ([], n, 180)
  | m + 1, pos, fr, out, h1, _, h3, h4, h5, h6 => by
    rw [parseRun]
    by_cases hp : pos < s.size
    · rw [if_pos hp]
      have hw := width_pos s pos hp
      by_cases h10 : (Utf8.decode s pos).1 = 10
      · rw [if_pos h10]
        obtain ⟨d1, d2⟩ := dec_ten s pos hp h10
        cases ho : oneOf (s.extract fr pos) with
        | none => exact Or.inr ⟨_, by omega, rfl⟩
        | some x =>
          simp only
          obtain ⟨o1, o2, o3⟩ := one_back _ x ho
          refine run_back s m _ (pos + 1) (out ++ [x]) (by omega) (by omega) (by omega) (by omega) ?_ (fun y hy => ?_)
          · rw [textOf_snoc, app_list, line_bytes, o1, h5, ext_list, List.take_add_one, d1, Option.toList_some, ← List.append_assoc]
            congr 1
            have e : pos = fr + (pos - fr) := by omega
            conv => rhs; rw [e]
            rw [List.take_add]
          · rcases List.mem_append.1 hy with hy | hy
            · exact h6 y hy
            · rw [List.mem_singleton] at hy
              subst hy
              exact ⟨o2, o3⟩
      · rw [if_neg h10]
        exact run_back s m _ fr out (by omega) (by omega) (by omega) h4 h5 h6
    · rw [if_neg hp]
      by_cases hf : fr < s.size
      · rw [if_pos hf]
        exact Or.inr ⟨_, by omega, rfl⟩
      · rw [if_neg hf]
        refine Or.inl ⟨out, rfl, h6, bytes_ext ?_⟩
        rw [h5, List.take_of_length_le (by rw [list_size]; omega)]
theorem parse_back (s : ByteArray) : (∃ r, parseOf s = (r, 0, 0) ∧ (∀ x ∈ r, okX x = true ∧ rngX x) ∧ printOf r = (s, 0)) ∨ ∃ n : Nat, 1 ≤ n ∧ parseOf s = ([], n, 180) := by
  have h := run_back s (s.size + 1) 0 0 [] (by omega) (by omega) (by omega) (by omega) rfl (by simp)
  unfold parseOf
  rcases h with ⟨r, h1, h2, h3⟩ | h
  · refine Or.inl ⟨r, h1, h2, ?_⟩
    unfold printOf
    rw [if_pos (List.all_eq_true.2 (fun x hx => (h2 x hx).1)), h3]
  · exact Or.inr h
end Go.Proofs.YtiapfhlipoomaaaDoor.Given
end
