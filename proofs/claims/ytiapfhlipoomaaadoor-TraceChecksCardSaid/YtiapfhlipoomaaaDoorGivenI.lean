/- trace.fill: an event's words behind the first one, read. -/
import Derived.Test.YtiapfhlipoomaaaDoorPlainB
namespace Go.Proofs.YtiapfhlipoomaaaDoor.Given
open Go.RowKit Go.Proofs.YtiapfhlipoomaaaDoorW.PrintWords Go.Proofs.YtiapfhlipoomaaaDoorW.PrintLast Go.Proofs.YtiapfhlipoomaaaDoorW.PrintMore Go.Proofs.YtiapfhlipoomaaaDoor.Print
set_option linter.unusedVariables false
set_option linter.unusedSimpArgs false

/-- Pointers to numbers of the event at block g. -/
def kp (g : Nat) : Kd Nat := Kd.scalar (fun o => Value.pointer (some ⟨g, o, none⟩)) (fun _ => rfl)
theorem info45 : (Tryd.prog.info? 45).map (fun i => (i.zero, i.size, i.bytes)) = some (some (.pointer none), 1, 8) := by kernel_rfl
theorem kp_C {w : World} {g : Nat} {A : Option Addr} {fo : List Nat} (hl : fo.length ≤ 7) (h : ∀ (j o : Nat), fo[j]? = some o → ∃ ad, A = some ad ∧ ad.block ≠ g ∧ w.cell? (ad.add j) = some (.pointer (some ⟨g, o, none⟩))) : Kd.C (kp g) w A fo.length fo := by
  refine Kd.C_of_reads (enc := fun o => Value.pointer (some ⟨g, o, none⟩)) (d := 0) (h1 := fun _ => rfl) ⟨rfl, by omega, fun hn => ?_⟩
  obtain ⟨ad, ha, _, _⟩ := h 0 fo[0] (List.getElem?_eq_getElem hn)
  refine ⟨ad, ha, fun j hj => ?_⟩
  obtain ⟨ad', ha', _, hc⟩ := h j fo[j] (List.getElem?_eq_getElem hj)
  rw [ha] at ha'
  injection ha' with e
  subst e
  rw [hc]
  simp [hj]
theorem kp_at {w : World} {g base : Nat} {ok : Nat → Prop} {v : Value} {fo : List Nat} (h : Kd.R (kp g) 45 w base ok v fo) (hg : g < base) : ∃ A c, v = .slice A fo.length c ∧ ∀ (j o : Nat), fo[j]? = some o → ∃ ad, A = some ad ∧ ad.block ≠ g ∧ w.cell? (ad.add j) = some (.pointer (some ⟨g, o, none⟩)) := by
  obtain ⟨A, c, hv, hl, hC⟩ := Kd.R_reads h
  refine ⟨A, c, hv, fun j o hj => ?_⟩
  have hjl := (List.getElem?_eq_some_iff.1 hj).1
  obtain ⟨g', cap, hv', hB, _⟩ := Kd.R_form h (by omega)
  have hr := Kd.reads_of_C (enc := fun o => Value.pointer (some ⟨g, o, none⟩)) (d := 0) (h1 := fun _ => rfl) hC
  obtain ⟨ad, ha, hc⟩ := hr.2.2 (by omega)
  rw [hv] at hv'
  injection hv' with e1 _ _
  rw [ha] at e1
  injection e1 with e1
  refine ⟨ad, ha, by rw [e1]; show g' ≠ g; omega, ?_⟩
  rw [hc j hjl]
  simp [hj]
/-- What fill answers, and what it leaves in the event at block g. -/
def FillSays (w : World) (g : Nat) (r : Option S24) (e : Ending) (w' : World) : Prop := match r with
  | some x => e = .returned (.bool true) ∧ (∃ u, w'.heap[g]? = some (.cells (evC x u) 24 (0, 0)) ∧ Kd.R (Kd.int .i64) 3 w' w.heap.size (fun k => w.heap.size ≤ k) u x.f7) ∧ Fr w.heap.size g w w'
  | none => e = .returned (.bool false) ∧ (∃ x A n c, w'.heap[g]? = some (.cells (evC x (.slice A n c)) 24 (0, 0))) ∧ Fr w.heap.size g w w'
theorem nums_some {l : List ByteArray} {t : ByteArray} {a : Nat} (h : l[a]? = some t) : l.drop a = t :: l.drop (a + 1) := by
  obtain ⟨hl, rfl⟩ := List.getElem?_eq_some_iff.1 h
  exact List.drop_eq_getElem_cons hl
set_option maxRecDepth 100000 in
set_option maxHeartbeats 16000000 in
theorem fill_c0 (k : Nat) (h1 : 1 ≤ k) (h2 : k ≤ 11) (hc : clsK k = 0) (g : Nat) (AF A2 : Option Addr) (c2 : Nat) (ws : List ByteArray) (w w0 : World) (hL : LW w0) (hB0 : Below w0.heap.size w0 w) (hg0 : w0.heap.size ≤ g) (hg : w.heap[g]? = some (.cells (evC ⟨k, 0, 0, 0, 0, 0, 0, []⟩ (.slice none 0 0)) 24 (0, 0)))
    (hF : ∀ (j o : Nat), (foK k)[j]? = some o → ∃ ad, AF = some ad ∧ ad.block ≠ g ∧ w.cell? (ad.add j) = some (.pointer (some ⟨g, o, none⟩))) (hws : WordsIn w g A2 ws) (hcap : ws.length ≤ c2) (hlen : ws.length ≤ 4294967296) (hsz : ∀ t ∈ ws, t.size ≤ 281474976710656) :
    Calls Tryd.prog 49 #[.pointer (some ⟨g, 0, none⟩), .agg #[.string (wordB k), .slice AF (foK k).length (foK k).length, .pointer none, .slice none 0 0, .pointer none, .bool (liK k)], .slice A2 ws.length c2] w (FillSays w g (fillOf k ws)) := by
  have hu24 := Tryd.underlying24
  have hu48 := Tryd.underlying48
  have hu46 := Tryd.underlying46
  have HL := Aside0.mk hL
  have HB0 := Aside0.mk hB0
  have HG0 := Aside0.mk hg0
  have HCL := Aside0.mk hc
  have HLEN := Aside0.mk hlen
  have HSZ := Aside0.mk hsz
  have hfl := fo_len k
  have GW := Aside0.mk (blk_lt hg)
  have BG0 := Aside0.mk (blk_below hg (bel1 w (.cells #[.string (wordB k), .slice AF (foK k).length (foK k).length, .pointer none, .slice none 0 0, .pointer none, .bool (liK k)] 48)))
  have FF0 := Aside0.mk (fun j o hj => by obtain ⟨ad, e1, e2, e3⟩ := hF j o hj; exact ⟨ad, e1, e2, pw_cell_below (bel1 w (.cells #[.string (wordB k), .slice AF (foK k).length (foK k).length, .pointer none, .slice none 0 0, .pointer none, .bool (liK k)] 48)) e3⟩ : ∀ (j o : Nat), (foK k)[j]? = some o → ∃ ad, AF = some ad ∧ ad.block ≠ g ∧ (w.alloc (.cells #[.string (wordB k), .slice AF (foK k).length (foK k).length, .pointer none, .slice none 0 0, .pointer none, .bool (liK k)] 48)).cell? (ad.add j) = some (.pointer (some ⟨g, o, none⟩)))
  have WS0 := Aside0.mk (hws.below (bel1 w (.cells #[.string (wordB k), .slice AF (foK k).length (foK k).length, .pointer none, .slice none 0 0, .pointer none, .bool (liK k)] 48)))
  have BF0 := Aside0.mk (heap_alloc_new w (.cells #[.string (wordB k), .slice AF (foK k).length (foK k).length, .pointer none, .slice none 0 0, .pointer none, .bool (liK k)] 48))
  have NF := Aside0.mk (show w.heap.size ≠ g from Nat.ne_of_gt (blk_lt hg))
  have HZ := Aside0.mk (bel1 w (.cells #[.string (wordB k), .slice AF (foK k).length (foK k).length, .pointer none, .slice none 0 0, .pointer none, .bool (liK k)] 48))
  have GZ := Aside0.mk (show g < (w.alloc (.cells #[.string (wordB k), .slice AF (foK k).length (foK k).length, .pointer none, .slice none 0 0, .pointer none, .bool (liK k)] 48)).heap.size by have := blk_lt hg; rw [size_alloc]; omega)
  have HCAP := Aside0.mk hcap
  clear hL hB0 hg0 hc hlen hsz hg hF hws hcap
  go_enter Tryd.func49, Tryd.ntmps49
  go_upto_region 2 with (fail)
  generalize w.heap.size = g4 at BF0 NF ⊢
  generalize w.alloc (.cells #[.string (wordB k), .slice AF (foK k).length (foK k).length, .pointer none, .slice none 0 0, .pointer none, .bool (liK k)] 48) = wz at *
  have y1 : wz.cell? ⟨g4, 1, none⟩ = some (.slice AF (foK k).length (foK k).length) := (blk_cell BF0.out 1).trans rfl
  have y2 : wz.cell? ⟨g4, 2, none⟩ = some (.pointer none) := (blk_cell BF0.out 2).trans rfl
  have KC := Aside0.mk (kp_C (by omega) FF0.out)
  obtain ⟨v0, hv0⟩ : ∃ v, v = Value.slice none 0 0 := ⟨_, rfl⟩
  rw [← hv0]
  have HV0 : Aside0 (Kd.R (kp g) 45 wz wz.heap.size (fun _ => True) v0 []) := ⟨by rw [hv0]; exact Kd.R_nil _ _ _ _ _⟩
  clear hv0
  go_wp2_with (first
    | ((with_reducible refine gate_builtin (b := .append) (xs := #[.tmp 16, .tmp 18]) rfl ?_); at_builtin; refine Kd.R_append_rows (kp g) (w0 := wz) wz.heap.size rfl (.tmp 16) (.tmp 18) 44 45 (.pointer none) 8 rfl Tryd.underlying44 info45 rfl Nat.one_pos (by omega) v0 ([] : List Nat) (foK k) AF (foK k).length (foK k).length (fun _ => True) (fun _ => False) rfl rfl HV0.out KC.out (fun _ _ h => h) (fun _ h => h.elim) (fun _ _ => trivial) (Below.refl _ _) (Nat.le_refl _) (by simp only [List.length_nil]; omega) ?_; intro v7 wl ho hb _ _; obtain ⟨Av, cv, rfl⟩ := Kd.R_slice ho; have HO := Aside0.mk ho; have HB1 := Aside0.mk hb; clear ho hb; have z2 : wl.cell? ⟨g4, 2, none⟩ = some (.pointer none) := cell_keep BF0.out HB1.out rfl))
  have HAT : Aside0 (Kd.R (kp g) 45 wl wz.heap.size (fun _ => True) (.slice Av ([] ++ foK k).length cv) (atK k)) := ⟨by have h := HO.out; rw [show atK k = [] ++ foK k by unfold atK; rw [HCL.out]; simp]; exact h⟩
  obtain ⟨Aa, ca, hva, hat⟩ := kp_at HAT.out GZ.out
  have hvl : (foK k).length = (atK k).length := by rw [show atK k = [] ++ foK k by unfold atK; rw [HCL.out]; simp]; simp
  have hvm : ([] ++ foK k).length = (atK k).length := by rw [show atK k = [] ++ foK k by unfold atK; rw [HCL.out]; simp]
  rw [hvm] at hva
  rw [hvl]
  (try rw [show ((foK k).length : Int) + 1 = ((atK k).length : Int) by omega])
  injection hva with hva1 _ hva3
  subst hva1 hva3
  clear hvm
  clear hvl
  have AT := Aside0.mk hat
  have HWL := Aside0.mk (HZ.out.trans (HB1.out.mono HZ.out.size))
  have BG := Aside0.mk (blk_below BG0.out HB1.out)
  have BF := Aside0.mk (blk_below BF0.out HB1.out)
  have WS := Aside0.mk (WS0.out.below HB1.out)
  have GL := Aside0.mk (blk_lt BG.out)
  have hal := at_len k
  clear hat HO HAT HV0 BG0 BF0 WS0 FF0 KC HB1 HZ y1 y2 z2
  go_loopw [2, 30] (fun v2 i wr => ∃ (a : Nat) (Aw : Option Addr) (cw : Nat) (us : List ByteArray) (x : S24), i = .int .i64 a ∧ a ≤ (atK k).length ∧ v2 = .slice Aw us.length cw ∧ us.length ≤ cw ∧ Aside0 (WordsIn wr g Aw us) ∧ Aside0 (us.length ≤ ws.length ∧ ∀ t ∈ us, t ∈ ws) ∧ Aside0 (fillNums (atK k) ws ⟨k, 0, 0, 0, 0, 0, 0, []⟩ = fillNums ((atK k).drop a) us x) ∧ Aside0 (x.f0 = k ∧ x.f7 = []) ∧ Aside0 (wr.heap[g]? = some (.cells (evC x (.slice none 0 0)) 24 (0, 0))) ∧ Aside0 (Fr wl.heap.size g wl wr)) (fun _ i _ => (atK k).length - (intOf i).toNat)
  case atStart => exact ⟨0, A2, c2, ws, _, rfl, by omega, rfl, HCAP.out, WS, ⟨Nat.le_refl _, fun _ h => h⟩, ⟨rfl⟩, ⟨rfl, rfl⟩, BG, ⟨⟨rfl, rfl, rfl, Nat.le_refl _, fun _ _ _ => rfl⟩⟩⟩
  case round =>
    clear BG WS
    obtain ⟨a, Aw, cw, us, x, rfl, ha, rfl, hcw, WS, US, HF, HX, BG, FR⟩ := hrel
    have hlm : us.length ≤ 4294967296 := Nat.le_trans US.out.1 HLEN.out
    by_cases hlt : a < (atK k).length
    · obtain ⟨o, ho⟩ : ∃ o, (atK k)[a]? = some o := ⟨_, List.getElem?_eq_getElem hlt⟩
      obtain ⟨ad1, hA1, hn1, hc1⟩ := AT.out a o ho
      subst hA1
      have HO6 := Aside0.mk (at_le k o (List.mem_of_getElem? ho))
      have HDR : Aside0 ((atK k).drop a = o :: (atK k).drop (a + 1)) := ⟨by obtain ⟨hl, rfl⟩ := List.getElem?_eq_some_iff.1 ho; exact List.drop_eq_getElem_cons hl⟩
      have x1 : wr.cell? (ad1.add a) = some (.pointer (some ⟨g, o, none⟩)) := FR.out.cell hc1 (Nat.le_refl _) (by rw [add_block]; exact hn1)
      have x2 : wr.cell? ⟨g, o, none⟩ = some (.int .i64 (getK x o)) := (blk_cell BG.out o).trans (ev_get x _ o HO6.out.1 HO6.out.2)
      clear hc1 hn1 ho
      cases us with
      | nil =>
        have HR : Aside0 (fillOf k ws = none) := ⟨by unfold fillOf; rw [HF.out, HDR.out]; rfl⟩
        simp only [List.length_nil] at hcw ⊢
        go_wp2_with (fail)
        go_ret
        rw [HR.out]
        exact ⟨rfl, ⟨_, _, _, _, BG.out⟩, (Fr.of_below HWL.out).trans (FR.out.mono HWL.out.size)⟩
      | cons t r =>
        simp only [List.length_cons] at hcw hlm ⊢
        obtain ⟨ad2, hA2, hw2⟩ := WS.out.2 0 t rfl
        subst hA2
        have x3 : wr.cell? ad2 = some (.string t) := hw2
        have HTS := Aside0.mk (HSZ.out t (US.out.2 t (List.mem_cons_self ..)))
        have FRW := Aside0.mk ((Fr.of_below HWL.out).trans (FR.out.mono HWL.out.size))
        have HLW : Aside0 (LW wr) := ⟨HL.out.below (HB0.out.trans (FRW.out.below HB0.out.size HG0.out))⟩
        cases hn : numOf t with
        | none =>
          have HN := Aside0.mk hn
          have HR : Aside0 (fillOf k ws = none) := ⟨by unfold fillOf; rw [HF.out, HDR.out, fillNums, HN.out]; rfl⟩
          clear hn
          go_wp2_with (go_at_call 58; refine (number_no t HN.out _ HLW.out HTS.out).mono ?_; rintro e w3 ⟨⟨v3, rfl⟩, hb⟩; have NB := Aside0.mk hb; clear hb)
          go_ret
          rw [HR.out]
          exact ⟨rfl, ⟨_, _, _, _, blk_below BG.out NB.out⟩, FRW.out.trans (Fr.of_below (NB.out.mono FRW.out.size))⟩
        | some n =>
          have HN := Aside0.mk hn
          have HF2 : Aside0 (fillNums (atK k) ws ⟨k, 0, 0, 0, 0, 0, 0, []⟩ = fillNums ((atK k).drop (a + 1)) r (setK x n o)) := ⟨by rw [HF.out, HDR.out, fillNums, HN.out]⟩
          have HX2 : Aside0 ((setK x n o).f0 = k ∧ (setK x n o).f7 = []) := ⟨by rw [setK_f0, setK_f7]; exact HX.out⟩
          obtain ⟨A3, hsl, hw3⟩ := words_tail WS.out cw (by omega)
          have WS3 := Aside0.mk hw3
          have US2 : Aside0 (r.length ≤ ws.length ∧ ∀ t ∈ r, t ∈ ws) := ⟨by have h1 := US.out.1; have h2 := US.out.2; simp only [List.length_cons] at h1; exact ⟨by omega, fun q hq => h2 q (List.mem_cons_of_mem _ hq)⟩⟩
          have hcw3 : r.length ≤ cw - 1 := by omega
          have HCW3 := Aside0.mk hcw3
          clear hn hw3 hcw3
          go_wp2_with (go_at_call 58; refine (number_yes t n HN.out _ HLW.out HTS.out).mono ?_; rintro e w3 ⟨rfl, hb⟩; have NB := Aside0.mk hb; clear hb; have BG3 := Aside0.mk (blk_below BG.out NB.out); have x4 : w3.cell? ⟨g, o, none⟩ = some (.int .i64 (getK x o)) := (blk_cell BG3.out o).trans (ev_get x _ o HO6.out.1 HO6.out.2); have x5 : w3.frozen? ⟨g, o, none⟩ = false := Lib.frozen_of_heap BG3.out o)
          have FR3 := Aside0.mk (fr_set (FR.out.trans (Fr.of_below (NB.out.mono FR.out.size))) o (.int .i64 n))
          have BG4 : Aside0 ((w3.setCell ⟨g, o, none⟩ (.int .i64 n)).heap[g]? = some (.cells (evC (setK x n o) (.slice none 0 0)) 24 (0, 0))) := ⟨blk_put BG3.out o _ (setK_cells x _ n o HO6.out.1 HO6.out.2)⟩
          have WS4 := Aside0.mk ((WS3.out.below NB.out).fr (base := w3.heap.size) (w' := w3.setCell ⟨g, o, none⟩ (.int .i64 n)) (fr_set ⟨rfl, rfl, rfl, Nat.le_refl _, fun _ _ _ => rfl⟩ o _) (Nat.le_refl _))
          go_roundw
          case rel => exact ⟨a + 1, A3, cw - 1, r, setK x n o, by go_num, by omega, rfl, HCW3.out, WS4, US2, HF2, HX2, BG4, FR3⟩
          case measure => simp [intOf]; omega
    · obtain rfl : a = (atK k).length := by omega
      have HF2 : Aside0 (fillNums (atK k) ws ⟨k, 0, 0, 0, 0, 0, 0, []⟩ = some (x, us)) := ⟨by rw [HF.out, List.drop_length]; rfl⟩
      have FRW := Aside0.mk ((Fr.of_below HWL.out).trans (FR.out.mono HWL.out.size))
      have z3 : wr.cell? ⟨g4, 3, none⟩ = some (.slice none 0 0) := (blk_cell (FR.out.blk BF.out (Nat.le_refl _) NF.out) 3).trans rfl
      clear HF ha hlt
      have HFO : Aside0 (fillOf k ws = fillRest (x, us)) := ⟨by unfold fillOf; rw [HF2.out]; simp only [Option.bind_some]; rw [show fillWord k (x, us) = some (x, us) by unfold fillWord; rw [HCL.out]; rfl]; rfl⟩
      go_wp2_with (fail)
      obtain ⟨wl2, rfl⟩ : ∃ wl2 : World, wl2 = wr := ⟨_, rfl⟩
      clear z3 HF2
      have UL : Aside0 (us.length ≤ 4294967296) := ⟨Nat.le_trans US.out.1 HLEN.out⟩
      have GL2 := Aside0.mk (blk_lt BG.out)
      go_loopw [77] (fun i wr => ∃ (a : Nat) (ns : List Int) (un : Value), i = .int .i64 a ∧ a ≤ us.length ∧ Aside0 (numsIn us = (numsIn (us.drop a)).map (ns ++ ·)) ∧ Aside0 (ns.length = a) ∧ Aside0 (wr.heap[g]? = some (.cells (evC x un) 24 (0, 0))) ∧ Aside0 (Kd.R (Kd.int .i64) 3 wr wl2.heap.size (fun k => wl2.heap.size ≤ k) un ns) ∧ Aside0 (Fr wl2.heap.size g wl2 wr)) (fun i _ => us.length - (intOf i).toNat)
      case atStart => exact ⟨0, [], _, rfl, by omega, ⟨by rw [List.drop_zero]; cases numsIn us <;> simp⟩, ⟨rfl⟩, BG, ⟨Kd.R_nil _ _ _ _ _⟩, ⟨⟨rfl, rfl, rfl, Nat.le_refl _, fun _ _ _ => rfl⟩⟩⟩
      case round =>
        clear BG
        obtain ⟨a, ns, un, rfl, ha, HN, HNL, BG, HO, FR2⟩ := hrel
        have hul := UL.out
        have FRX := Aside0.mk (FRW.out.trans (FR2.out.mono FRW.out.size))
        obtain ⟨Au, cu, rfl⟩ := Kd.R_slice HO.out
        by_cases hlt : a < us.length
        · obtain ⟨t, ht⟩ : ∃ t, us[a]? = some t := ⟨_, List.getElem?_eq_getElem hlt⟩
          obtain ⟨adw, hAw, hcw⟩ := WS.out.2 a t ht
          have had := WS.out.1 adw hAw
          subst hAw
          have x1 : wr.cell? (adw.add a) = some (.string t) := FR2.out.cell hcw (Nat.le_refl _) (by rw [add_block]; exact had)
          have HTS := Aside0.mk (HSZ.out t (US.out.2 t (List.mem_of_getElem? ht)))
          have HLW : Aside0 (LW wr) := ⟨HL.out.below (HB0.out.trans (FRX.out.below HB0.out.size HG0.out))⟩
          have HDR := Aside0.mk (nums_some ht)
          clear hcw had ht
          cases hn : numOf t with
          | none =>
            have HNN := Aside0.mk hn
            have HR : Aside0 (fillOf k ws = none) := ⟨by rw [HFO.out]; unfold fillRest; simp only; rw [HN.out, HDR.out, numsIn, HNN.out]; rfl⟩
            clear hn
            go_wp2_with (go_at_call 58; refine (number_no t HNN.out _ HLW.out HTS.out).mono ?_; rintro e w3 ⟨⟨v3, rfl⟩, hb⟩; have NB := Aside0.mk hb; clear hb)
            go_ret
            rw [HR.out]
            exact ⟨rfl, ⟨_, _, _, _, blk_below BG.out NB.out⟩, FRX.out.trans (Fr.of_below (NB.out.mono FRX.out.size))⟩
          | some n =>
            have HNN := Aside0.mk hn
            have HN2 : Aside0 (numsIn us = (numsIn (us.drop (a + 1))).map ((ns ++ [n]) ++ ·)) := ⟨by rw [HN.out, HDR.out, numsIn, HNN.out]; cases numsIn (us.drop (a + 1)) <;> simp⟩
            have HTL : Aside0 ((ns.length + 1) * 8 ≤ 140737488355328) := ⟨by rw [HNL.out]; omega⟩
            clear hn
            go_wp2_with (first
              | (go_at_call 58; refine (number_yes t n HNN.out _ HLW.out HTS.out).mono ?_; rintro e w3 ⟨rfl, hb⟩; have NB := Aside0.mk hb; clear hb; have BG3 := Aside0.mk (blk_below BG.out NB.out); have HO3 := Aside0.mk (Kd.R_below HO.out NB.out); have x7 : w3.cell? ⟨g, 7, none⟩ = some (.slice Au ns.length cu) := (blk_cell BG3.out 7).trans rfl)
              | ((with_reducible refine gate_builtin (b := .append) (xs := #[.tmp 92, .tmp 94]) rfl ?_); at_builtin; refine Kd.R_append (Kd.int .i64) (w0 := w3) wl2.heap.size rfl (.tmp 92) (.tmp 94) 22 3 (.int .i64 0) 8 rfl Tryd.underlying22 info3 rfl (by decide) (by omega) (.slice Au ns.length cu) ns n [.int .i64 n] (fun k => wl2.heap.size ≤ k) (fun _ => False) rfl rfl rfl (fun _ h => h.elim) (fun k hk => Nat.le_trans (Nat.le_trans FR2.out.size NB.out.size) hk) HO3.out (Below.refl _ _) (Nat.le_trans FR2.out.size NB.out.size) HTL.out ?_; intro v4 w4 ho hb _ _; obtain ⟨Av, cv, rfl⟩ := Kd.R_slice ho; have HO4 := Aside0.mk ho; have NB4 := Aside0.mk hb; clear ho hb; have BG4 : Aside0 (w4.heap[g]? = some (.cells (evC x (.slice Au ns.length cu)) 24 (0, 0))) := ⟨(NB4.out.block g GL2.out).trans BG3.out⟩; have x8 : w4.cell? ⟨g, 7, none⟩ = some (.slice Au ns.length cu) := (blk_cell BG4.out 7).trans rfl; have x9 : w4.frozen? ⟨g, 7, none⟩ = false := Lib.frozen_of_heap BG4.out 7))
            have HO5 : Aside0 (Kd.R (Kd.int .i64) 3 (w4.setCell ⟨g, 7, none⟩ (.slice Av (ns ++ [n]).length cv)) wl2.heap.size (fun k => wl2.heap.size ≤ k) (.slice Av (ns ++ [n]).length cv) (ns ++ [n])) := ⟨Kd.R_far HO4.out (fun k hk => Nat.ne_of_gt (Nat.lt_of_lt_of_le GL2.out hk)) _⟩
            have BG5 : Aside0 ((w4.setCell ⟨g, 7, none⟩ (.slice Av (ns ++ [n]).length cv)).heap[g]? = some (.cells (evC x (.slice Av (ns ++ [n]).length cv)) 24 (0, 0))) := ⟨blk_put BG4.out 7 _ rfl⟩
            have FR5 := Aside0.mk (fr_set ((FR2.out.trans (Fr.of_below (NB.out.mono FR2.out.size))).trans (Fr.of_below NB4.out)) 7 (.slice Av (ns ++ [n]).length cv))
            simp only [List.length_append, List.length_cons, List.length_nil, Nat.zero_add] at HO5 BG5 FR5
            go_roundw
            case rel => exact ⟨a + 1, ns ++ [n], _, by go_num, by omega, HN2, ⟨by rw [List.length_append, HNL.out]; rfl⟩, BG5, HO5, FR5⟩
            case measure => simp [intOf]; omega
        · obtain rfl : a = us.length := by omega
          have HNS : Aside0 (numsIn us = some ns) := ⟨by rw [HN.out, List.drop_length]; simp [numsIn]⟩
          obtain ⟨_, hcu, hC⟩ := Kd.R_reads' HO.out
          have HC := Aside0.mk hC
          have HCU := Aside0.mk hcu
          obtain ⟨y, hy⟩ : ∃ y : S24, y = ⟨x.f0, x.f1, x.f2, x.f3, x.f4, x.f5, x.f6, ns⟩ := ⟨_, rfl⟩
          have HY := Aside0.mk hy
          clear hC hcu hy hlt ha
          cases hok : okX y with
          | true =>
            have HCK : Aside0 (checkOf ⟨x.f0, x.f1, x.f2, x.f3, x.f4, x.f5, x.f6, ns⟩ = 0) := ⟨by rw [← HY.out, checkOf_ok, hok]; rfl⟩
            have HR : Aside0 (fillOf k ws = some y) := ⟨by rw [HFO.out]; unfold fillRest; simp only; rw [HNS.out]; simp only [Option.bind_some]; rw [← HY.out, if_pos hok]⟩
            clear hok
            go_wp2_with (first
              | (refine wpList_load_row rfl 24 (.tmp 100) rfl g rfl 24 (evC x (.slice Au ns.length cu)) (0, 0) _ BG.out Tryd.underlying24 rfl (by kernel_rfl) ?_)
              | (go_at_call 10; refine (chk_any ⟨x.f0, x.f1, x.f2, x.f3, x.f4, x.f5, x.f6, ns⟩ Au cu _ HC.out HCU.out).mono ?_; rw [HCK.out]; rintro e w5 ⟨rfl, hb⟩; have NB := Aside0.mk hb; clear hb))
            go_ret
            rw [HR.out]
            exact ⟨rfl, ⟨_, by rw [HY.out]; exact blk_below BG.out NB.out, by rw [HY.out]; exact Kd.R_mono (Kd.R_lower (Kd.R_below HO.out NB.out) FRW.out.size) (fun k hk => Nat.le_trans FRW.out.size hk)⟩, FRX.out.trans (Fr.of_below (NB.out.mono FRX.out.size))⟩
          | false =>
            have HCK : Aside0 (checkOf ⟨x.f0, x.f1, x.f2, x.f3, x.f4, x.f5, x.f6, ns⟩ = 180) := ⟨by rw [← HY.out, checkOf_ok, hok]; rfl⟩
            have HR : Aside0 (fillOf k ws = none) := ⟨by rw [HFO.out]; unfold fillRest; simp only; rw [HNS.out]; simp only [Option.bind_some]; rw [← HY.out, if_neg (by rw [hok]; decide)]⟩
            clear hok
            go_wp2_with (first
              | (refine wpList_load_row rfl 24 (.tmp 100) rfl g rfl 24 (evC x (.slice Au ns.length cu)) (0, 0) _ BG.out Tryd.underlying24 rfl (by kernel_rfl) ?_)
              | (go_at_call 10; refine (chk_any ⟨x.f0, x.f1, x.f2, x.f3, x.f4, x.f5, x.f6, ns⟩ Au cu _ HC.out HCU.out).mono ?_; rw [HCK.out]; rintro e w5 ⟨rfl, hb⟩; have NB := Aside0.mk hb; clear hb))
            go_ret
            rw [HR.out]
            exact ⟨rfl, ⟨_, _, _, _, blk_below BG.out NB.out⟩, FRX.out.trans (Fr.of_below (NB.out.mono FRX.out.size))⟩
set_option maxRecDepth 100000 in
set_option maxHeartbeats 16000000 in
theorem fill_c1 (k : Nat) (h1 : 1 ≤ k) (h2 : k ≤ 11) (hc : clsK k = 1) (g : Nat) (AF A2 : Option Addr) (c2 : Nat) (ws : List ByteArray) (w w0 : World) (hL : LW w0) (hB0 : Below w0.heap.size w0 w) (hg0 : w0.heap.size ≤ g) (hg : w.heap[g]? = some (.cells (evC ⟨k, 0, 0, 0, 0, 0, 0, []⟩ (.slice none 0 0)) 24 (0, 0)))
    (hF : ∀ (j o : Nat), (foK k)[j]? = some o → ∃ ad, AF = some ad ∧ ad.block ≠ g ∧ w.cell? (ad.add j) = some (.pointer (some ⟨g, o, none⟩))) (hws : WordsIn w g A2 ws) (hcap : ws.length ≤ c2) (hlen : ws.length ≤ 4294967296) (hsz : ∀ t ∈ ws, t.size ≤ 281474976710656) :
    Calls Tryd.prog 49 #[.pointer (some ⟨g, 0, none⟩), .agg #[.string (wordB k), .slice AF (foK k).length (foK k).length, .pointer (some ⟨g, 6, none⟩), .slice none 0 0, .pointer none, .bool false], .slice A2 ws.length c2] w (FillSays w g (fillOf k ws)) := by
  have hu24 := Tryd.underlying24
  have hu48 := Tryd.underlying48
  have hu46 := Tryd.underlying46
  have HL := Aside0.mk hL
  have HB0 := Aside0.mk hB0
  have HG0 := Aside0.mk hg0
  have HCL := Aside0.mk hc
  have HLEN := Aside0.mk hlen
  have HSZ := Aside0.mk hsz
  have hfl := fo_len k
  have GW := Aside0.mk (blk_lt hg)
  have BG0 := Aside0.mk (blk_below hg (bel1 w (.cells #[.string (wordB k), .slice AF (foK k).length (foK k).length, .pointer (some ⟨g, 6, none⟩), .slice none 0 0, .pointer none, .bool false] 48)))
  have FF0 := Aside0.mk (fun j o hj => by obtain ⟨ad, e1, e2, e3⟩ := hF j o hj; exact ⟨ad, e1, e2, pw_cell_below (bel1 w (.cells #[.string (wordB k), .slice AF (foK k).length (foK k).length, .pointer (some ⟨g, 6, none⟩), .slice none 0 0, .pointer none, .bool false] 48)) e3⟩ : ∀ (j o : Nat), (foK k)[j]? = some o → ∃ ad, AF = some ad ∧ ad.block ≠ g ∧ (w.alloc (.cells #[.string (wordB k), .slice AF (foK k).length (foK k).length, .pointer (some ⟨g, 6, none⟩), .slice none 0 0, .pointer none, .bool false] 48)).cell? (ad.add j) = some (.pointer (some ⟨g, o, none⟩)))
  have WS0 := Aside0.mk (hws.below (bel1 w (.cells #[.string (wordB k), .slice AF (foK k).length (foK k).length, .pointer (some ⟨g, 6, none⟩), .slice none 0 0, .pointer none, .bool false] 48)))
  have BF0 := Aside0.mk (heap_alloc_new w (.cells #[.string (wordB k), .slice AF (foK k).length (foK k).length, .pointer (some ⟨g, 6, none⟩), .slice none 0 0, .pointer none, .bool false] 48))
  have NF := Aside0.mk (show w.heap.size ≠ g from Nat.ne_of_gt (blk_lt hg))
  have HZ := Aside0.mk (bel1 w (.cells #[.string (wordB k), .slice AF (foK k).length (foK k).length, .pointer (some ⟨g, 6, none⟩), .slice none 0 0, .pointer none, .bool false] 48))
  have GZ := Aside0.mk (show g < (w.alloc (.cells #[.string (wordB k), .slice AF (foK k).length (foK k).length, .pointer (some ⟨g, 6, none⟩), .slice none 0 0, .pointer none, .bool false] 48)).heap.size by have := blk_lt hg; rw [size_alloc]; omega)
  have HCAP := Aside0.mk hcap
  clear hL hB0 hg0 hc hlen hsz hg hF hws hcap
  go_enter Tryd.func49, Tryd.ntmps49
  go_upto_region 2 with (fail)
  generalize w.heap.size = g4 at BF0 NF ⊢
  generalize w.alloc (.cells #[.string (wordB k), .slice AF (foK k).length (foK k).length, .pointer (some ⟨g, 6, none⟩), .slice none 0 0, .pointer none, .bool false] 48) = wz at *
  have y1 : wz.cell? ⟨g4, 1, none⟩ = some (.slice AF (foK k).length (foK k).length) := (blk_cell BF0.out 1).trans rfl
  have y2 : wz.cell? ⟨g4, 2, none⟩ = some (.pointer (some ⟨g, 6, none⟩)) := (blk_cell BF0.out 2).trans rfl
  have KC := Aside0.mk (kp_C (by omega) FF0.out)
  obtain ⟨v0, hv0⟩ : ∃ v, v = Value.slice none 0 0 := ⟨_, rfl⟩
  rw [← hv0]
  have HV0 : Aside0 (Kd.R (kp g) 45 wz wz.heap.size (fun _ => True) v0 []) := ⟨by rw [hv0]; exact Kd.R_nil _ _ _ _ _⟩
  clear hv0
  go_wp2_with (first
    | ((with_reducible refine gate_builtin (b := .append) (xs := #[.tmp 16, .tmp 18]) rfl ?_); at_builtin; refine Kd.R_append_rows (kp g) (w0 := wz) wz.heap.size rfl (.tmp 16) (.tmp 18) 44 45 (.pointer none) 8 rfl Tryd.underlying44 info45 rfl Nat.one_pos (by omega) v0 ([] : List Nat) (foK k) AF (foK k).length (foK k).length (fun _ => True) (fun _ => False) rfl rfl HV0.out KC.out (fun _ _ h => h) (fun _ h => h.elim) (fun _ _ => trivial) (Below.refl _ _) (Nat.le_refl _) (by simp only [List.length_nil]; omega) ?_; intro v7 wl ho hb _ _; obtain ⟨Av, cv, rfl⟩ := Kd.R_slice ho; have HO := Aside0.mk ho; have HB1 := Aside0.mk hb; clear ho hb; have z2 : wl.cell? ⟨g4, 2, none⟩ = some (.pointer (some ⟨g, 6, none⟩)) := cell_keep BF0.out HB1.out rfl)
    | ((with_reducible refine gate_builtin (b := .append) (xs := #[.tmp 23, .tmp 26]) rfl ?_); at_builtin; refine Kd.R_append (kp g) (w0 := wz) wz.heap.size rfl (.tmp 23) (.tmp 26) 44 45 (.pointer none) 8 rfl Tryd.underlying44 info45 rfl Nat.one_pos (by omega) (.slice Av ([] ++ foK k).length cv) ([] ++ foK k) 6 [.pointer (some ⟨g, 6, none⟩)] (fun _ => True) (fun _ => False) rfl rfl rfl (fun _ h => h.elim) (fun _ _ => trivial) HO.out HB1.out HB1.out.size (by simp only [List.nil_append]; omega) ?_; intro v8 wm ho hb _ _; obtain ⟨Ax, cx, rfl⟩ := Kd.R_slice ho; have HO2 := Aside0.mk ho; have HB2 := Aside0.mk hb; clear ho hb HO HB1; have HO := HO2; have HB1 := HB2; clear HO2 HB2))
  have HAT : Aside0 (Kd.R (kp g) 45 wm wz.heap.size (fun _ => True) (.slice Ax ([] ++ foK k ++ [6]).length cx) (atK k)) := ⟨by have h := HO.out; rw [show atK k = [] ++ foK k ++ [6] by unfold atK; rw [HCL.out]; simp]; exact h⟩
  obtain ⟨Aa, ca, hva, hat⟩ := kp_at HAT.out GZ.out
  have hvl : ((foK k).length + 1) = (atK k).length := by rw [show atK k = [] ++ foK k ++ [6] by unfold atK; rw [HCL.out]; simp]; simp
  have hvm : ([] ++ foK k ++ [6]).length = (atK k).length := by rw [show atK k = [] ++ foK k ++ [6] by unfold atK; rw [HCL.out]; simp]
  rw [hvm] at hva
  rw [hvl]
  (try rw [show ((foK k).length : Int) + 1 = ((atK k).length : Int) by omega])
  injection hva with hva1 _ hva3
  subst hva1 hva3
  clear hvm
  clear hvl
  have AT := Aside0.mk hat
  have HWL := Aside0.mk (HZ.out.trans (HB1.out.mono HZ.out.size))
  have BG := Aside0.mk (blk_below BG0.out HB1.out)
  have BF := Aside0.mk (blk_below BF0.out HB1.out)
  have WS := Aside0.mk (WS0.out.below HB1.out)
  have GL := Aside0.mk (blk_lt BG.out)
  have hal := at_len k
  clear hat HO HAT HV0 BG0 BF0 WS0 FF0 KC HB1 HZ y1 y2 z2
  go_loopw [2, 30] (fun v2 i wr => ∃ (a : Nat) (Aw : Option Addr) (cw : Nat) (us : List ByteArray) (x : S24), i = .int .i64 a ∧ a ≤ (atK k).length ∧ v2 = .slice Aw us.length cw ∧ us.length ≤ cw ∧ Aside0 (WordsIn wr g Aw us) ∧ Aside0 (us.length ≤ ws.length ∧ ∀ t ∈ us, t ∈ ws) ∧ Aside0 (fillNums (atK k) ws ⟨k, 0, 0, 0, 0, 0, 0, []⟩ = fillNums ((atK k).drop a) us x) ∧ Aside0 (x.f0 = k ∧ x.f7 = []) ∧ Aside0 (wr.heap[g]? = some (.cells (evC x (.slice none 0 0)) 24 (0, 0))) ∧ Aside0 (Fr wm.heap.size g wm wr)) (fun _ i _ => (atK k).length - (intOf i).toNat)
  case atStart => exact ⟨0, A2, c2, ws, _, rfl, by omega, rfl, HCAP.out, WS, ⟨Nat.le_refl _, fun _ h => h⟩, ⟨rfl⟩, ⟨rfl, rfl⟩, BG, ⟨⟨rfl, rfl, rfl, Nat.le_refl _, fun _ _ _ => rfl⟩⟩⟩
  case round =>
    clear BG WS
    obtain ⟨a, Aw, cw, us, x, rfl, ha, rfl, hcw, WS, US, HF, HX, BG, FR⟩ := hrel
    have hlm : us.length ≤ 4294967296 := Nat.le_trans US.out.1 HLEN.out
    by_cases hlt : a < (atK k).length
    · obtain ⟨o, ho⟩ : ∃ o, (atK k)[a]? = some o := ⟨_, List.getElem?_eq_getElem hlt⟩
      obtain ⟨ad1, hA1, hn1, hc1⟩ := AT.out a o ho
      subst hA1
      have HO6 := Aside0.mk (at_le k o (List.mem_of_getElem? ho))
      have HDR : Aside0 ((atK k).drop a = o :: (atK k).drop (a + 1)) := ⟨by obtain ⟨hl, rfl⟩ := List.getElem?_eq_some_iff.1 ho; exact List.drop_eq_getElem_cons hl⟩
      have x1 : wr.cell? (ad1.add a) = some (.pointer (some ⟨g, o, none⟩)) := FR.out.cell hc1 (Nat.le_refl _) (by rw [add_block]; exact hn1)
      have x2 : wr.cell? ⟨g, o, none⟩ = some (.int .i64 (getK x o)) := (blk_cell BG.out o).trans (ev_get x _ o HO6.out.1 HO6.out.2)
      clear hc1 hn1 ho
      cases us with
      | nil =>
        have HR : Aside0 (fillOf k ws = none) := ⟨by unfold fillOf; rw [HF.out, HDR.out]; rfl⟩
        simp only [List.length_nil] at hcw ⊢
        go_wp2_with (fail)
        go_ret
        rw [HR.out]
        exact ⟨rfl, ⟨_, _, _, _, BG.out⟩, (Fr.of_below HWL.out).trans (FR.out.mono HWL.out.size)⟩
      | cons t r =>
        simp only [List.length_cons] at hcw hlm ⊢
        obtain ⟨ad2, hA2, hw2⟩ := WS.out.2 0 t rfl
        subst hA2
        have x3 : wr.cell? ad2 = some (.string t) := hw2
        have HTS := Aside0.mk (HSZ.out t (US.out.2 t (List.mem_cons_self ..)))
        have FRW := Aside0.mk ((Fr.of_below HWL.out).trans (FR.out.mono HWL.out.size))
        have HLW : Aside0 (LW wr) := ⟨HL.out.below (HB0.out.trans (FRW.out.below HB0.out.size HG0.out))⟩
        cases hn : numOf t with
        | none =>
          have HN := Aside0.mk hn
          have HR : Aside0 (fillOf k ws = none) := ⟨by unfold fillOf; rw [HF.out, HDR.out, fillNums, HN.out]; rfl⟩
          clear hn
          go_wp2_with (go_at_call 58; refine (number_no t HN.out _ HLW.out HTS.out).mono ?_; rintro e w3 ⟨⟨v3, rfl⟩, hb⟩; have NB := Aside0.mk hb; clear hb)
          go_ret
          rw [HR.out]
          exact ⟨rfl, ⟨_, _, _, _, blk_below BG.out NB.out⟩, FRW.out.trans (Fr.of_below (NB.out.mono FRW.out.size))⟩
        | some n =>
          have HN := Aside0.mk hn
          have HF2 : Aside0 (fillNums (atK k) ws ⟨k, 0, 0, 0, 0, 0, 0, []⟩ = fillNums ((atK k).drop (a + 1)) r (setK x n o)) := ⟨by rw [HF.out, HDR.out, fillNums, HN.out]⟩
          have HX2 : Aside0 ((setK x n o).f0 = k ∧ (setK x n o).f7 = []) := ⟨by rw [setK_f0, setK_f7]; exact HX.out⟩
          obtain ⟨A3, hsl, hw3⟩ := words_tail WS.out cw (by omega)
          have WS3 := Aside0.mk hw3
          have US2 : Aside0 (r.length ≤ ws.length ∧ ∀ t ∈ r, t ∈ ws) := ⟨by have h1 := US.out.1; have h2 := US.out.2; simp only [List.length_cons] at h1; exact ⟨by omega, fun q hq => h2 q (List.mem_cons_of_mem _ hq)⟩⟩
          have hcw3 : r.length ≤ cw - 1 := by omega
          have HCW3 := Aside0.mk hcw3
          clear hn hw3 hcw3
          go_wp2_with (go_at_call 58; refine (number_yes t n HN.out _ HLW.out HTS.out).mono ?_; rintro e w3 ⟨rfl, hb⟩; have NB := Aside0.mk hb; clear hb; have BG3 := Aside0.mk (blk_below BG.out NB.out); have x4 : w3.cell? ⟨g, o, none⟩ = some (.int .i64 (getK x o)) := (blk_cell BG3.out o).trans (ev_get x _ o HO6.out.1 HO6.out.2); have x5 : w3.frozen? ⟨g, o, none⟩ = false := Lib.frozen_of_heap BG3.out o)
          have FR3 := Aside0.mk (fr_set (FR.out.trans (Fr.of_below (NB.out.mono FR.out.size))) o (.int .i64 n))
          have BG4 : Aside0 ((w3.setCell ⟨g, o, none⟩ (.int .i64 n)).heap[g]? = some (.cells (evC (setK x n o) (.slice none 0 0)) 24 (0, 0))) := ⟨blk_put BG3.out o _ (setK_cells x _ n o HO6.out.1 HO6.out.2)⟩
          have WS4 := Aside0.mk ((WS3.out.below NB.out).fr (base := w3.heap.size) (w' := w3.setCell ⟨g, o, none⟩ (.int .i64 n)) (fr_set ⟨rfl, rfl, rfl, Nat.le_refl _, fun _ _ _ => rfl⟩ o _) (Nat.le_refl _))
          go_roundw
          case rel => exact ⟨a + 1, A3, cw - 1, r, setK x n o, by go_num, by omega, rfl, HCW3.out, WS4, US2, HF2, HX2, BG4, FR3⟩
          case measure => simp [intOf]; omega
    · obtain rfl : a = (atK k).length := by omega
      have HF2 : Aside0 (fillNums (atK k) ws ⟨k, 0, 0, 0, 0, 0, 0, []⟩ = some (x, us)) := ⟨by rw [HF.out, List.drop_length]; rfl⟩
      have FRW := Aside0.mk ((Fr.of_below HWL.out).trans (FR.out.mono HWL.out.size))
      have z3 : wr.cell? ⟨g4, 3, none⟩ = some (.slice none 0 0) := (blk_cell (FR.out.blk BF.out (Nat.le_refl _) NF.out) 3).trans rfl
      clear HF ha hlt
      have HFO : Aside0 (fillOf k ws = fillRest (x, us)) := ⟨by unfold fillOf; rw [HF2.out]; simp only [Option.bind_some]; rw [show fillWord k (x, us) = some (x, us) by unfold fillWord; rw [HCL.out]; rfl]; rfl⟩
      go_wp2_with (fail)
      obtain ⟨wl2, rfl⟩ : ∃ wl2 : World, wl2 = wr := ⟨_, rfl⟩
      clear z3 HF2
      have UL : Aside0 (us.length ≤ 4294967296) := ⟨Nat.le_trans US.out.1 HLEN.out⟩
      have GL2 := Aside0.mk (blk_lt BG.out)
      go_loopw [77] (fun i wr => ∃ (a : Nat) (ns : List Int) (un : Value), i = .int .i64 a ∧ a ≤ us.length ∧ Aside0 (numsIn us = (numsIn (us.drop a)).map (ns ++ ·)) ∧ Aside0 (ns.length = a) ∧ Aside0 (wr.heap[g]? = some (.cells (evC x un) 24 (0, 0))) ∧ Aside0 (Kd.R (Kd.int .i64) 3 wr wl2.heap.size (fun k => wl2.heap.size ≤ k) un ns) ∧ Aside0 (Fr wl2.heap.size g wl2 wr)) (fun i _ => us.length - (intOf i).toNat)
      case atStart => exact ⟨0, [], _, rfl, by omega, ⟨by rw [List.drop_zero]; cases numsIn us <;> simp⟩, ⟨rfl⟩, BG, ⟨Kd.R_nil _ _ _ _ _⟩, ⟨⟨rfl, rfl, rfl, Nat.le_refl _, fun _ _ _ => rfl⟩⟩⟩
      case round =>
        clear BG
        obtain ⟨a, ns, un, rfl, ha, HN, HNL, BG, HO, FR2⟩ := hrel
        have hul := UL.out
        have FRX := Aside0.mk (FRW.out.trans (FR2.out.mono FRW.out.size))
        obtain ⟨Au, cu, rfl⟩ := Kd.R_slice HO.out
        by_cases hlt : a < us.length
        · obtain ⟨t, ht⟩ : ∃ t, us[a]? = some t := ⟨_, List.getElem?_eq_getElem hlt⟩
          obtain ⟨adw, hAw, hcw⟩ := WS.out.2 a t ht
          have had := WS.out.1 adw hAw
          subst hAw
          have x1 : wr.cell? (adw.add a) = some (.string t) := FR2.out.cell hcw (Nat.le_refl _) (by rw [add_block]; exact had)
          have HTS := Aside0.mk (HSZ.out t (US.out.2 t (List.mem_of_getElem? ht)))
          have HLW : Aside0 (LW wr) := ⟨HL.out.below (HB0.out.trans (FRX.out.below HB0.out.size HG0.out))⟩
          have HDR := Aside0.mk (nums_some ht)
          clear hcw had ht
          cases hn : numOf t with
          | none =>
            have HNN := Aside0.mk hn
            have HR : Aside0 (fillOf k ws = none) := ⟨by rw [HFO.out]; unfold fillRest; simp only; rw [HN.out, HDR.out, numsIn, HNN.out]; rfl⟩
            clear hn
            go_wp2_with (go_at_call 58; refine (number_no t HNN.out _ HLW.out HTS.out).mono ?_; rintro e w3 ⟨⟨v3, rfl⟩, hb⟩; have NB := Aside0.mk hb; clear hb)
            go_ret
            rw [HR.out]
            exact ⟨rfl, ⟨_, _, _, _, blk_below BG.out NB.out⟩, FRX.out.trans (Fr.of_below (NB.out.mono FRX.out.size))⟩
          | some n =>
            have HNN := Aside0.mk hn
            have HN2 : Aside0 (numsIn us = (numsIn (us.drop (a + 1))).map ((ns ++ [n]) ++ ·)) := ⟨by rw [HN.out, HDR.out, numsIn, HNN.out]; cases numsIn (us.drop (a + 1)) <;> simp⟩
            have HTL : Aside0 ((ns.length + 1) * 8 ≤ 140737488355328) := ⟨by rw [HNL.out]; omega⟩
            clear hn
            go_wp2_with (first
              | (go_at_call 58; refine (number_yes t n HNN.out _ HLW.out HTS.out).mono ?_; rintro e w3 ⟨rfl, hb⟩; have NB := Aside0.mk hb; clear hb; have BG3 := Aside0.mk (blk_below BG.out NB.out); have HO3 := Aside0.mk (Kd.R_below HO.out NB.out); have x7 : w3.cell? ⟨g, 7, none⟩ = some (.slice Au ns.length cu) := (blk_cell BG3.out 7).trans rfl)
              | ((with_reducible refine gate_builtin (b := .append) (xs := #[.tmp 92, .tmp 94]) rfl ?_); at_builtin; refine Kd.R_append (Kd.int .i64) (w0 := w3) wl2.heap.size rfl (.tmp 92) (.tmp 94) 22 3 (.int .i64 0) 8 rfl Tryd.underlying22 info3 rfl (by decide) (by omega) (.slice Au ns.length cu) ns n [.int .i64 n] (fun k => wl2.heap.size ≤ k) (fun _ => False) rfl rfl rfl (fun _ h => h.elim) (fun k hk => Nat.le_trans (Nat.le_trans FR2.out.size NB.out.size) hk) HO3.out (Below.refl _ _) (Nat.le_trans FR2.out.size NB.out.size) HTL.out ?_; intro v4 w4 ho hb _ _; obtain ⟨Av, cv, rfl⟩ := Kd.R_slice ho; have HO4 := Aside0.mk ho; have NB4 := Aside0.mk hb; clear ho hb; have BG4 : Aside0 (w4.heap[g]? = some (.cells (evC x (.slice Au ns.length cu)) 24 (0, 0))) := ⟨(NB4.out.block g GL2.out).trans BG3.out⟩; have x8 : w4.cell? ⟨g, 7, none⟩ = some (.slice Au ns.length cu) := (blk_cell BG4.out 7).trans rfl; have x9 : w4.frozen? ⟨g, 7, none⟩ = false := Lib.frozen_of_heap BG4.out 7))
            have HO5 : Aside0 (Kd.R (Kd.int .i64) 3 (w4.setCell ⟨g, 7, none⟩ (.slice Av (ns ++ [n]).length cv)) wl2.heap.size (fun k => wl2.heap.size ≤ k) (.slice Av (ns ++ [n]).length cv) (ns ++ [n])) := ⟨Kd.R_far HO4.out (fun k hk => Nat.ne_of_gt (Nat.lt_of_lt_of_le GL2.out hk)) _⟩
            have BG5 : Aside0 ((w4.setCell ⟨g, 7, none⟩ (.slice Av (ns ++ [n]).length cv)).heap[g]? = some (.cells (evC x (.slice Av (ns ++ [n]).length cv)) 24 (0, 0))) := ⟨blk_put BG4.out 7 _ rfl⟩
            have FR5 := Aside0.mk (fr_set ((FR2.out.trans (Fr.of_below (NB.out.mono FR2.out.size))).trans (Fr.of_below NB4.out)) 7 (.slice Av (ns ++ [n]).length cv))
            simp only [List.length_append, List.length_cons, List.length_nil, Nat.zero_add] at HO5 BG5 FR5
            go_roundw
            case rel => exact ⟨a + 1, ns ++ [n], _, by go_num, by omega, HN2, ⟨by rw [List.length_append, HNL.out]; rfl⟩, BG5, HO5, FR5⟩
            case measure => simp [intOf]; omega
        · obtain rfl : a = us.length := by omega
          have HNS : Aside0 (numsIn us = some ns) := ⟨by rw [HN.out, List.drop_length]; simp [numsIn]⟩
          obtain ⟨_, hcu, hC⟩ := Kd.R_reads' HO.out
          have HC := Aside0.mk hC
          have HCU := Aside0.mk hcu
          obtain ⟨y, hy⟩ : ∃ y : S24, y = ⟨x.f0, x.f1, x.f2, x.f3, x.f4, x.f5, x.f6, ns⟩ := ⟨_, rfl⟩
          have HY := Aside0.mk hy
          clear hC hcu hy hlt ha
          cases hok : okX y with
          | true =>
            have HCK : Aside0 (checkOf ⟨x.f0, x.f1, x.f2, x.f3, x.f4, x.f5, x.f6, ns⟩ = 0) := ⟨by rw [← HY.out, checkOf_ok, hok]; rfl⟩
            have HR : Aside0 (fillOf k ws = some y) := ⟨by rw [HFO.out]; unfold fillRest; simp only; rw [HNS.out]; simp only [Option.bind_some]; rw [← HY.out, if_pos hok]⟩
            clear hok
            go_wp2_with (first
              | (refine wpList_load_row rfl 24 (.tmp 100) rfl g rfl 24 (evC x (.slice Au ns.length cu)) (0, 0) _ BG.out Tryd.underlying24 rfl (by kernel_rfl) ?_)
              | (go_at_call 10; refine (chk_any ⟨x.f0, x.f1, x.f2, x.f3, x.f4, x.f5, x.f6, ns⟩ Au cu _ HC.out HCU.out).mono ?_; rw [HCK.out]; rintro e w5 ⟨rfl, hb⟩; have NB := Aside0.mk hb; clear hb))
            go_ret
            rw [HR.out]
            exact ⟨rfl, ⟨_, by rw [HY.out]; exact blk_below BG.out NB.out, by rw [HY.out]; exact Kd.R_mono (Kd.R_lower (Kd.R_below HO.out NB.out) FRW.out.size) (fun k hk => Nat.le_trans FRW.out.size hk)⟩, FRX.out.trans (Fr.of_below (NB.out.mono FRX.out.size))⟩
          | false =>
            have HCK : Aside0 (checkOf ⟨x.f0, x.f1, x.f2, x.f3, x.f4, x.f5, x.f6, ns⟩ = 180) := ⟨by rw [← HY.out, checkOf_ok, hok]; rfl⟩
            have HR : Aside0 (fillOf k ws = none) := ⟨by rw [HFO.out]; unfold fillRest; simp only; rw [HNS.out]; simp only [Option.bind_some]; rw [← HY.out, if_neg (by rw [hok]; decide)]⟩
            clear hok
            go_wp2_with (first
              | (refine wpList_load_row rfl 24 (.tmp 100) rfl g rfl 24 (evC x (.slice Au ns.length cu)) (0, 0) _ BG.out Tryd.underlying24 rfl (by kernel_rfl) ?_)
              | (go_at_call 10; refine (chk_any ⟨x.f0, x.f1, x.f2, x.f3, x.f4, x.f5, x.f6, ns⟩ Au cu _ HC.out HCU.out).mono ?_; rw [HCK.out]; rintro e w5 ⟨rfl, hb⟩; have NB := Aside0.mk hb; clear hb))
            go_ret
            rw [HR.out]
            exact ⟨rfl, ⟨_, _, _, _, blk_below BG.out NB.out⟩, FRX.out.trans (Fr.of_below (NB.out.mono FRX.out.size))⟩
set_option maxRecDepth 100000 in
set_option maxHeartbeats 16000000 in
theorem fill_c2 (k : Nat) (h1 : 1 ≤ k) (h2 : k ≤ 11) (hc : clsK k = 2) (g : Nat) (AF A2 : Option Addr) (c2 : Nat) (bW : Nat) (ws : List ByteArray) (w w0 : World) (hL : LW w0) (hB0 : Below w0.heap.size w0 w) (hg0 : w0.heap.size ≤ g) (hg : w.heap[g]? = some (.cells (evC ⟨k, 0, 0, 0, 0, 0, 0, []⟩ (.slice none 0 0)) 24 (0, 0)))
    (hF : ∀ (j o : Nat), (foK k)[j]? = some o → ∃ ad, AF = some ad ∧ ad.block ≠ g ∧ w.cell? (ad.add j) = some (.pointer (some ⟨g, o, none⟩))) (hW : w.heap[bW]? = some (.cells ((wsK k).map Value.string).toArray 9 (0, 0))) (hWg : bW ≠ g) (hws : WordsIn w g A2 ws) (hcap : ws.length ≤ c2) (hlen : ws.length ≤ 4294967296) (hsz : ∀ t ∈ ws, t.size ≤ 281474976710656) :
    Calls Tryd.prog 49 #[.pointer (some ⟨g, 0, none⟩), .agg #[.string (wordB k), .slice AF (foK k).length (foK k).length, .pointer none, .slice (some ⟨bW, 0, none⟩) (wsK k).length (wsK k).length, .pointer (some ⟨g, 6, none⟩), .bool false], .slice A2 ws.length c2] w (FillSays w g (fillOf k ws)) := by
  have hu24 := Tryd.underlying24
  have hu48 := Tryd.underlying48
  have hu46 := Tryd.underlying46
  have HL := Aside0.mk hL
  have HB0 := Aside0.mk hB0
  have HG0 := Aside0.mk hg0
  have HCL := Aside0.mk hc
  have HLEN := Aside0.mk hlen
  have HSZ := Aside0.mk hsz
  have hfl := fo_len k
  have GW := Aside0.mk (blk_lt hg)
  have BG0 := Aside0.mk (blk_below hg (bel1 w (.cells #[.string (wordB k), .slice AF (foK k).length (foK k).length, .pointer none, .slice (some ⟨bW, 0, none⟩) (wsK k).length (wsK k).length, .pointer (some ⟨g, 6, none⟩), .bool false] 48)))
  have FF0 := Aside0.mk (fun j o hj => by obtain ⟨ad, e1, e2, e3⟩ := hF j o hj; exact ⟨ad, e1, e2, pw_cell_below (bel1 w (.cells #[.string (wordB k), .slice AF (foK k).length (foK k).length, .pointer none, .slice (some ⟨bW, 0, none⟩) (wsK k).length (wsK k).length, .pointer (some ⟨g, 6, none⟩), .bool false] 48)) e3⟩ : ∀ (j o : Nat), (foK k)[j]? = some o → ∃ ad, AF = some ad ∧ ad.block ≠ g ∧ (w.alloc (.cells #[.string (wordB k), .slice AF (foK k).length (foK k).length, .pointer none, .slice (some ⟨bW, 0, none⟩) (wsK k).length (wsK k).length, .pointer (some ⟨g, 6, none⟩), .bool false] 48)).cell? (ad.add j) = some (.pointer (some ⟨g, o, none⟩)))
  have WS0 := Aside0.mk (hws.below (bel1 w (.cells #[.string (wordB k), .slice AF (foK k).length (foK k).length, .pointer none, .slice (some ⟨bW, 0, none⟩) (wsK k).length (wsK k).length, .pointer (some ⟨g, 6, none⟩), .bool false] 48)))
  have BW0 := Aside0.mk (blk_below hW (bel1 w (.cells #[.string (wordB k), .slice AF (foK k).length (foK k).length, .pointer none, .slice (some ⟨bW, 0, none⟩) (wsK k).length (wsK k).length, .pointer (some ⟨g, 6, none⟩), .bool false] 48)))
  have NW := Aside0.mk hWg
  clear hW hWg
  have BF0 := Aside0.mk (heap_alloc_new w (.cells #[.string (wordB k), .slice AF (foK k).length (foK k).length, .pointer none, .slice (some ⟨bW, 0, none⟩) (wsK k).length (wsK k).length, .pointer (some ⟨g, 6, none⟩), .bool false] 48))
  have NF := Aside0.mk (show w.heap.size ≠ g from Nat.ne_of_gt (blk_lt hg))
  have HZ := Aside0.mk (bel1 w (.cells #[.string (wordB k), .slice AF (foK k).length (foK k).length, .pointer none, .slice (some ⟨bW, 0, none⟩) (wsK k).length (wsK k).length, .pointer (some ⟨g, 6, none⟩), .bool false] 48))
  have GZ := Aside0.mk (show g < (w.alloc (.cells #[.string (wordB k), .slice AF (foK k).length (foK k).length, .pointer none, .slice (some ⟨bW, 0, none⟩) (wsK k).length (wsK k).length, .pointer (some ⟨g, 6, none⟩), .bool false] 48)).heap.size by have := blk_lt hg; rw [size_alloc]; omega)
  have HCAP := Aside0.mk hcap
  clear hL hB0 hg0 hc hlen hsz hg hF hws hcap
  go_enter Tryd.func49, Tryd.ntmps49
  go_upto_region 2 with (fail)
  generalize w.heap.size = g4 at BF0 NF ⊢
  generalize w.alloc (.cells #[.string (wordB k), .slice AF (foK k).length (foK k).length, .pointer none, .slice (some ⟨bW, 0, none⟩) (wsK k).length (wsK k).length, .pointer (some ⟨g, 6, none⟩), .bool false] 48) = wz at *
  have y1 : wz.cell? ⟨g4, 1, none⟩ = some (.slice AF (foK k).length (foK k).length) := (blk_cell BF0.out 1).trans rfl
  have y2 : wz.cell? ⟨g4, 2, none⟩ = some (.pointer none) := (blk_cell BF0.out 2).trans rfl
  have KC := Aside0.mk (kp_C (by omega) FF0.out)
  obtain ⟨v0, hv0⟩ : ∃ v, v = Value.slice none 0 0 := ⟨_, rfl⟩
  rw [← hv0]
  have HV0 : Aside0 (Kd.R (kp g) 45 wz wz.heap.size (fun _ => True) v0 []) := ⟨by rw [hv0]; exact Kd.R_nil _ _ _ _ _⟩
  clear hv0
  go_wp2_with (first
    | ((with_reducible refine gate_builtin (b := .append) (xs := #[.tmp 16, .tmp 18]) rfl ?_); at_builtin; refine Kd.R_append_rows (kp g) (w0 := wz) wz.heap.size rfl (.tmp 16) (.tmp 18) 44 45 (.pointer none) 8 rfl Tryd.underlying44 info45 rfl Nat.one_pos (by omega) v0 ([] : List Nat) (foK k) AF (foK k).length (foK k).length (fun _ => True) (fun _ => False) rfl rfl HV0.out KC.out (fun _ _ h => h) (fun _ h => h.elim) (fun _ _ => trivial) (Below.refl _ _) (Nat.le_refl _) (by simp only [List.length_nil]; omega) ?_; intro v7 wl ho hb _ _; obtain ⟨Av, cv, rfl⟩ := Kd.R_slice ho; have HO := Aside0.mk ho; have HB1 := Aside0.mk hb; clear ho hb; have z2 : wl.cell? ⟨g4, 2, none⟩ = some (.pointer none) := cell_keep BF0.out HB1.out rfl))
  have HAT : Aside0 (Kd.R (kp g) 45 wl wz.heap.size (fun _ => True) (.slice Av ([] ++ foK k).length cv) (atK k)) := ⟨by have h := HO.out; rw [show atK k = [] ++ foK k by unfold atK; rw [HCL.out]; simp]; exact h⟩
  obtain ⟨Aa, ca, hva, hat⟩ := kp_at HAT.out GZ.out
  have hvl : (foK k).length = (atK k).length := by rw [show atK k = [] ++ foK k by unfold atK; rw [HCL.out]; simp]; simp
  have hvm : ([] ++ foK k).length = (atK k).length := by rw [show atK k = [] ++ foK k by unfold atK; rw [HCL.out]; simp]
  rw [hvm] at hva
  rw [hvl]
  (try rw [show ((foK k).length : Int) + 1 = ((atK k).length : Int) by omega])
  injection hva with hva1 _ hva3
  subst hva1 hva3
  clear hvm
  clear hvl
  have AT := Aside0.mk hat
  have HWL := Aside0.mk (HZ.out.trans (HB1.out.mono HZ.out.size))
  have BG := Aside0.mk (blk_below BG0.out HB1.out)
  have BF := Aside0.mk (blk_below BF0.out HB1.out)
  have WS := Aside0.mk (WS0.out.below HB1.out)
  have GL := Aside0.mk (blk_lt BG.out)
  have hal := at_len k
  have BW := Aside0.mk (blk_below BW0.out HB1.out)
  clear BW0
  clear hat HO HAT HV0 BG0 BF0 WS0 FF0 KC HB1 HZ y1 y2 z2
  go_loopw [2, 30] (fun v2 i wr => ∃ (a : Nat) (Aw : Option Addr) (cw : Nat) (us : List ByteArray) (x : S24), i = .int .i64 a ∧ a ≤ (atK k).length ∧ v2 = .slice Aw us.length cw ∧ us.length ≤ cw ∧ Aside0 (WordsIn wr g Aw us) ∧ Aside0 (us.length ≤ ws.length ∧ ∀ t ∈ us, t ∈ ws) ∧ Aside0 (fillNums (atK k) ws ⟨k, 0, 0, 0, 0, 0, 0, []⟩ = fillNums ((atK k).drop a) us x) ∧ Aside0 (x.f0 = k ∧ x.f7 = []) ∧ Aside0 (wr.heap[g]? = some (.cells (evC x (.slice none 0 0)) 24 (0, 0))) ∧ Aside0 (Fr wl.heap.size g wl wr)) (fun _ i _ => (atK k).length - (intOf i).toNat)
  case atStart => exact ⟨0, A2, c2, ws, _, rfl, by omega, rfl, HCAP.out, WS, ⟨Nat.le_refl _, fun _ h => h⟩, ⟨rfl⟩, ⟨rfl, rfl⟩, BG, ⟨⟨rfl, rfl, rfl, Nat.le_refl _, fun _ _ _ => rfl⟩⟩⟩
  case round =>
    clear BG WS
    obtain ⟨a, Aw, cw, us, x, rfl, ha, rfl, hcw, WS, US, HF, HX, BG, FR⟩ := hrel
    have hlm : us.length ≤ 4294967296 := Nat.le_trans US.out.1 HLEN.out
    by_cases hlt : a < (atK k).length
    · obtain ⟨o, ho⟩ : ∃ o, (atK k)[a]? = some o := ⟨_, List.getElem?_eq_getElem hlt⟩
      obtain ⟨ad1, hA1, hn1, hc1⟩ := AT.out a o ho
      subst hA1
      have HO6 := Aside0.mk (at_le k o (List.mem_of_getElem? ho))
      have HDR : Aside0 ((atK k).drop a = o :: (atK k).drop (a + 1)) := ⟨by obtain ⟨hl, rfl⟩ := List.getElem?_eq_some_iff.1 ho; exact List.drop_eq_getElem_cons hl⟩
      have x1 : wr.cell? (ad1.add a) = some (.pointer (some ⟨g, o, none⟩)) := FR.out.cell hc1 (Nat.le_refl _) (by rw [add_block]; exact hn1)
      have x2 : wr.cell? ⟨g, o, none⟩ = some (.int .i64 (getK x o)) := (blk_cell BG.out o).trans (ev_get x _ o HO6.out.1 HO6.out.2)
      clear hc1 hn1 ho
      cases us with
      | nil =>
        have HR : Aside0 (fillOf k ws = none) := ⟨by unfold fillOf; rw [HF.out, HDR.out]; rfl⟩
        simp only [List.length_nil] at hcw ⊢
        go_wp2_with (fail)
        go_ret
        rw [HR.out]
        exact ⟨rfl, ⟨_, _, _, _, BG.out⟩, (Fr.of_below HWL.out).trans (FR.out.mono HWL.out.size)⟩
      | cons t r =>
        simp only [List.length_cons] at hcw hlm ⊢
        obtain ⟨ad2, hA2, hw2⟩ := WS.out.2 0 t rfl
        subst hA2
        have x3 : wr.cell? ad2 = some (.string t) := hw2
        have HTS := Aside0.mk (HSZ.out t (US.out.2 t (List.mem_cons_self ..)))
        have FRW := Aside0.mk ((Fr.of_below HWL.out).trans (FR.out.mono HWL.out.size))
        have HLW : Aside0 (LW wr) := ⟨HL.out.below (HB0.out.trans (FRW.out.below HB0.out.size HG0.out))⟩
        cases hn : numOf t with
        | none =>
          have HN := Aside0.mk hn
          have HR : Aside0 (fillOf k ws = none) := ⟨by unfold fillOf; rw [HF.out, HDR.out, fillNums, HN.out]; rfl⟩
          clear hn
          go_wp2_with (go_at_call 58; refine (number_no t HN.out _ HLW.out HTS.out).mono ?_; rintro e w3 ⟨⟨v3, rfl⟩, hb⟩; have NB := Aside0.mk hb; clear hb)
          go_ret
          rw [HR.out]
          exact ⟨rfl, ⟨_, _, _, _, blk_below BG.out NB.out⟩, FRW.out.trans (Fr.of_below (NB.out.mono FRW.out.size))⟩
        | some n =>
          have HN := Aside0.mk hn
          have HF2 : Aside0 (fillNums (atK k) ws ⟨k, 0, 0, 0, 0, 0, 0, []⟩ = fillNums ((atK k).drop (a + 1)) r (setK x n o)) := ⟨by rw [HF.out, HDR.out, fillNums, HN.out]⟩
          have HX2 : Aside0 ((setK x n o).f0 = k ∧ (setK x n o).f7 = []) := ⟨by rw [setK_f0, setK_f7]; exact HX.out⟩
          obtain ⟨A3, hsl, hw3⟩ := words_tail WS.out cw (by omega)
          have WS3 := Aside0.mk hw3
          have US2 : Aside0 (r.length ≤ ws.length ∧ ∀ t ∈ r, t ∈ ws) := ⟨by have h1 := US.out.1; have h2 := US.out.2; simp only [List.length_cons] at h1; exact ⟨by omega, fun q hq => h2 q (List.mem_cons_of_mem _ hq)⟩⟩
          have hcw3 : r.length ≤ cw - 1 := by omega
          have HCW3 := Aside0.mk hcw3
          clear hn hw3 hcw3
          go_wp2_with (go_at_call 58; refine (number_yes t n HN.out _ HLW.out HTS.out).mono ?_; rintro e w3 ⟨rfl, hb⟩; have NB := Aside0.mk hb; clear hb; have BG3 := Aside0.mk (blk_below BG.out NB.out); have x4 : w3.cell? ⟨g, o, none⟩ = some (.int .i64 (getK x o)) := (blk_cell BG3.out o).trans (ev_get x _ o HO6.out.1 HO6.out.2); have x5 : w3.frozen? ⟨g, o, none⟩ = false := Lib.frozen_of_heap BG3.out o)
          have FR3 := Aside0.mk (fr_set (FR.out.trans (Fr.of_below (NB.out.mono FR.out.size))) o (.int .i64 n))
          have BG4 : Aside0 ((w3.setCell ⟨g, o, none⟩ (.int .i64 n)).heap[g]? = some (.cells (evC (setK x n o) (.slice none 0 0)) 24 (0, 0))) := ⟨blk_put BG3.out o _ (setK_cells x _ n o HO6.out.1 HO6.out.2)⟩
          have WS4 := Aside0.mk ((WS3.out.below NB.out).fr (base := w3.heap.size) (w' := w3.setCell ⟨g, o, none⟩ (.int .i64 n)) (fr_set ⟨rfl, rfl, rfl, Nat.le_refl _, fun _ _ _ => rfl⟩ o _) (Nat.le_refl _))
          go_roundw
          case rel => exact ⟨a + 1, A3, cw - 1, r, setK x n o, by go_num, by omega, rfl, HCW3.out, WS4, US2, HF2, HX2, BG4, FR3⟩
          case measure => simp [intOf]; omega
    · obtain rfl : a = (atK k).length := by omega
      have HF2 : Aside0 (fillNums (atK k) ws ⟨k, 0, 0, 0, 0, 0, 0, []⟩ = some (x, us)) := ⟨by rw [HF.out, List.drop_length]; rfl⟩
      have FRW := Aside0.mk ((Fr.of_below HWL.out).trans (FR.out.mono HWL.out.size))
      have z3 : wr.cell? ⟨g4, 3, none⟩ = some (.slice (some ⟨bW, 0, none⟩) (wsK k).length (wsK k).length) := (blk_cell (FR.out.blk BF.out (Nat.le_refl _) NF.out) 3).trans rfl
      clear HF ha hlt
      have HWX : Aside0 (wsK k = wsK k) := ⟨rfl⟩
      cases us with
      | nil =>
        have HR : Aside0 (fillOf k ws = none) := ⟨by unfold fillOf; rw [HF2.out]; simp only [Option.bind_some]; rw [show fillWord k (x, []) = none by unfold fillWord; rw [HCL.out]; rfl]; rfl⟩
        simp only [List.length_nil] at hcw ⊢
        go_wp2_with (fail)
        go_ret
        rw [HR.out]
        exact ⟨rfl, ⟨_, _, _, _, BG.out⟩, FRW.out⟩
      | cons t r =>
        simp only [List.length_cons] at hcw hlm ⊢
        obtain ⟨ad2, hA2, hw2⟩ := WS.out.2 0 t rfl
        subst hA2
        have x3 : wr.cell? ad2 = some (.string t) := hw2
        by_cases hte : t.toList = []
        · have HR : Aside0 (fillOf k ws = none) := ⟨by unfold fillOf; rw [HF2.out]; simp only [Option.bind_some]; rw [show fillWord k (x, t :: r) = none by unfold fillWord; rw [HCL.out]; simp only; rw [if_pos True.intro, if_pos hte]]; rfl⟩
          have hte2 : t.toList.isEmpty = true := by rw [hte]; rfl
          clear hw2
          go_wp2_with (fail)
          go_ret
          rw [HR.out]
          exact ⟨rfl, ⟨_, _, _, _, BG.out⟩, FRW.out⟩
        · obtain ⟨n, hn⟩ : ∃ n, n = idxB (wsK k) t 0 := ⟨_, rfl⟩
          have HFO : Aside0 (fillOf k ws = fillRest (setK x n 6, r)) := ⟨by unfold fillOf; rw [HF2.out]; simp only [Option.bind_some]; rw [show fillWord k (x, t :: r) = some (setK x n 6, r) by unfold fillWord; rw [HCL.out]; simp only; rw [if_pos True.intro, if_neg hte, hn]]; rfl⟩
          have HNI := Aside0.mk hn
          have hte2 : t.toList.isEmpty = false := by cases h : t.toList with | nil => exact absurd h hte | cons _ _ => rfl
          have HX2 : Aside0 ((setK x n 6).f0 = k ∧ (setK x n 6).f7 = []) := ⟨by rw [setK_f0, setK_f7]; exact HX.out⟩
          obtain ⟨A3, hsl, hw3⟩ := words_tail WS.out cw (by omega)
          have WS3 := Aside0.mk hw3
          have US2 : Aside0 (r.length ≤ ws.length ∧ ∀ t ∈ r, t ∈ ws) := ⟨by have h1 := US.out.1; have h2 := US.out.2; simp only [List.length_cons] at h1; exact ⟨by omega, fun q hq => h2 q (List.mem_cons_of_mem _ hq)⟩⟩
          have BWR := Aside0.mk (FR.out.blk BW.out (Nat.le_refl _) NW.out)
          have z4 : wr.cell? ⟨g4, 4, none⟩ = some (.pointer (some ⟨g, 6, none⟩)) := (blk_cell (FR.out.blk BF.out (Nat.le_refl _) NF.out) 4).trans rfl
          have x6 : wr.cell? ⟨g, 6, none⟩ = some (.int .i64 x.f6) := (blk_cell BG.out 6).trans rfl
          have HWN := Aside0.mk (ws_len k)
          have XWS : Aside0 (wr.cell? ad2 = some (.string t)) := ⟨x3⟩
          clear hw2 hw3 hn hte
          go_wp2_with (fail)
          go_cut [2] (fun v2 wc => v2 = .slice (some ad2) (r.length + 1) cw ∧ Aside0 (wc.heap[g]? = some (.cells (evC (setK x n 6) (.slice none 0 0)) 24 (0, 0))) ∧ Aside0 (Fr wr.heap.size g wr wc))
          case first =>
            go_region_with (go_at_call 59; refine (index_any bW (wsK k) t _ HWN.out (by exact BWR.out)).mono ?_; rw [← HNI.out]; rintro e w5 ⟨rfl, hd⟩; have NB := Aside0.mk hd.below; have x3' : w5.cell? ad2 = some (.string t) := pw_cell_below hd.below XWS.out; have z4' : w5.cell? ⟨g4, 4, none⟩ = some (.pointer (some ⟨g, 6, none⟩)) := pw_cell_below hd.below z4; have x6' : w5.cell? ⟨g, 6, none⟩ = some (.int .i64 x.f6) := pw_cell_below hd.below x6; have BG5 := Aside0.mk (blk_below (w := wr.drew) BG.out hd.below); have f6' : w5.frozen? ⟨g, 6, none⟩ = false := Lib.frozen_of_heap BG5.out 6; clear hd)
            all_goals go_wp2_with (fail)
            all_goals go_meet
            all_goals exact ⟨rfl, ⟨blk_put (w := w5) BG5.out 6 _ rfl⟩, ⟨fr_set (w1 := w5) (Fr.of_below (show Below wr.heap.size wr w5 from ⟨NB.out.os, NB.out.tape, NB.out.output, NB.out.size, NB.out.block⟩)) 6 (.int .i64 n)⟩⟩
          case rest =>
            obtain ⟨rfl, BG2, FR2⟩ := hcut
            have FRW2 := Aside0.mk (FRW.out.trans (FR2.out.mono FRW.out.size))
            have WSN := Aside0.mk (WS3.out.fr FR2.out (Nat.le_refl _))
            clear BG FRW WS US z3 z4 x3 x6 hte2
            have BG := BG2
            have FRW := FRW2
            have WS := WSN
            have US := US2
            obtain ⟨x', hx'⟩ : ∃ x', x' = setK x n 6 := ⟨_, rfl⟩
            rw [← hx'] at BG HFO HX2 BG2
            clear hx' BG2 FRW2 WSN US2 FR2
            go_wp2_with (fail)
            obtain ⟨wl2, rfl⟩ : ∃ wl2 : World, wl2 = wc := ⟨_, rfl⟩
            have UL : Aside0 (r.length ≤ 4294967296) := ⟨Nat.le_trans US.out.1 HLEN.out⟩
            have GL2 := Aside0.mk (blk_lt BG.out)
            go_loopw [77] (fun i wr => ∃ (a : Nat) (ns : List Int) (un : Value), i = .int .i64 a ∧ a ≤ r.length ∧ Aside0 (numsIn r = (numsIn (r.drop a)).map (ns ++ ·)) ∧ Aside0 (ns.length = a) ∧ Aside0 (wr.heap[g]? = some (.cells (evC x' un) 24 (0, 0))) ∧ Aside0 (Kd.R (Kd.int .i64) 3 wr wl2.heap.size (fun k => wl2.heap.size ≤ k) un ns) ∧ Aside0 (Fr wl2.heap.size g wl2 wr)) (fun i _ => r.length - (intOf i).toNat)
            case atStart => exact ⟨0, [], _, rfl, by omega, ⟨by rw [List.drop_zero]; cases numsIn r <;> simp⟩, ⟨rfl⟩, BG, ⟨Kd.R_nil _ _ _ _ _⟩, ⟨⟨rfl, rfl, rfl, Nat.le_refl _, fun _ _ _ => rfl⟩⟩⟩
            case round =>
              clear BG
              obtain ⟨a, ns, un, rfl, ha, HN, HNL, BG, HO, FR2⟩ := hrel
              have hul := UL.out
              have FRX := Aside0.mk (FRW.out.trans (FR2.out.mono FRW.out.size))
              obtain ⟨Au, cu, rfl⟩ := Kd.R_slice HO.out
              by_cases hlt : a < r.length
              · obtain ⟨t, ht⟩ : ∃ t, r[a]? = some t := ⟨_, List.getElem?_eq_getElem hlt⟩
                obtain ⟨adw, hAw, hcw⟩ := WS.out.2 a t ht
                have had := WS.out.1 adw hAw
                subst hAw
                have x1 : wr.cell? (adw.add a) = some (.string t) := FR2.out.cell hcw (Nat.le_refl _) (by rw [add_block]; exact had)
                have HTS := Aside0.mk (HSZ.out t (US.out.2 t (List.mem_of_getElem? ht)))
                have HLW : Aside0 (LW wr) := ⟨HL.out.below (HB0.out.trans (FRX.out.below HB0.out.size HG0.out))⟩
                have HDR := Aside0.mk (nums_some ht)
                clear hcw had ht
                cases hn : numOf t with
                | none =>
                  have HNN := Aside0.mk hn
                  have HR : Aside0 (fillOf k ws = none) := ⟨by rw [HFO.out]; unfold fillRest; simp only; rw [HN.out, HDR.out, numsIn, HNN.out]; rfl⟩
                  clear hn
                  go_wp2_with (go_at_call 58; refine (number_no t HNN.out _ HLW.out HTS.out).mono ?_; rintro e w3 ⟨⟨v3, rfl⟩, hb⟩; have NB := Aside0.mk hb; clear hb)
                  go_ret
                  rw [HR.out]
                  exact ⟨rfl, ⟨_, _, _, _, blk_below BG.out NB.out⟩, FRX.out.trans (Fr.of_below (NB.out.mono FRX.out.size))⟩
                | some n =>
                  have HNN := Aside0.mk hn
                  have HN2 : Aside0 (numsIn r = (numsIn (r.drop (a + 1))).map ((ns ++ [n]) ++ ·)) := ⟨by rw [HN.out, HDR.out, numsIn, HNN.out]; cases numsIn (r.drop (a + 1)) <;> simp⟩
                  have HTL : Aside0 ((ns.length + 1) * 8 ≤ 140737488355328) := ⟨by rw [HNL.out]; omega⟩
                  clear hn
                  go_wp2_with (first
                    | (go_at_call 58; refine (number_yes t n HNN.out _ HLW.out HTS.out).mono ?_; rintro e w3 ⟨rfl, hb⟩; have NB := Aside0.mk hb; clear hb; have BG3 := Aside0.mk (blk_below BG.out NB.out); have HO3 := Aside0.mk (Kd.R_below HO.out NB.out); have x7 : w3.cell? ⟨g, 7, none⟩ = some (.slice Au ns.length cu) := (blk_cell BG3.out 7).trans rfl)
                    | ((with_reducible refine gate_builtin (b := .append) (xs := #[.tmp 92, .tmp 94]) rfl ?_); at_builtin; refine Kd.R_append (Kd.int .i64) (w0 := w3) wl2.heap.size rfl (.tmp 92) (.tmp 94) 22 3 (.int .i64 0) 8 rfl Tryd.underlying22 info3 rfl (by decide) (by omega) (.slice Au ns.length cu) ns n [.int .i64 n] (fun k => wl2.heap.size ≤ k) (fun _ => False) rfl rfl rfl (fun _ h => h.elim) (fun k hk => Nat.le_trans (Nat.le_trans FR2.out.size NB.out.size) hk) HO3.out (Below.refl _ _) (Nat.le_trans FR2.out.size NB.out.size) HTL.out ?_; intro v4 w4 ho hb _ _; obtain ⟨Av, cv, rfl⟩ := Kd.R_slice ho; have HO4 := Aside0.mk ho; have NB4 := Aside0.mk hb; clear ho hb; have BG4 : Aside0 (w4.heap[g]? = some (.cells (evC x' (.slice Au ns.length cu)) 24 (0, 0))) := ⟨(NB4.out.block g GL2.out).trans BG3.out⟩; have x8 : w4.cell? ⟨g, 7, none⟩ = some (.slice Au ns.length cu) := (blk_cell BG4.out 7).trans rfl; have x9 : w4.frozen? ⟨g, 7, none⟩ = false := Lib.frozen_of_heap BG4.out 7))
                  have HO5 : Aside0 (Kd.R (Kd.int .i64) 3 (w4.setCell ⟨g, 7, none⟩ (.slice Av (ns ++ [n]).length cv)) wl2.heap.size (fun k => wl2.heap.size ≤ k) (.slice Av (ns ++ [n]).length cv) (ns ++ [n])) := ⟨Kd.R_far HO4.out (fun k hk => Nat.ne_of_gt (Nat.lt_of_lt_of_le GL2.out hk)) _⟩
                  have BG5 : Aside0 ((w4.setCell ⟨g, 7, none⟩ (.slice Av (ns ++ [n]).length cv)).heap[g]? = some (.cells (evC x' (.slice Av (ns ++ [n]).length cv)) 24 (0, 0))) := ⟨blk_put BG4.out 7 _ rfl⟩
                  have FR5 := Aside0.mk (fr_set ((FR2.out.trans (Fr.of_below (NB.out.mono FR2.out.size))).trans (Fr.of_below NB4.out)) 7 (.slice Av (ns ++ [n]).length cv))
                  simp only [List.length_append, List.length_cons, List.length_nil, Nat.zero_add] at HO5 BG5 FR5
                  go_roundw
                  case rel => exact ⟨a + 1, ns ++ [n], _, by go_num, by omega, HN2, ⟨by rw [List.length_append, HNL.out]; rfl⟩, BG5, HO5, FR5⟩
                  case measure => simp [intOf]; omega
              · obtain rfl : a = r.length := by omega
                have HNS : Aside0 (numsIn r = some ns) := ⟨by rw [HN.out, List.drop_length]; simp [numsIn]⟩
                obtain ⟨_, hcu, hC⟩ := Kd.R_reads' HO.out
                have HC := Aside0.mk hC
                have HCU := Aside0.mk hcu
                obtain ⟨y, hy⟩ : ∃ y : S24, y = ⟨x'.f0, x'.f1, x'.f2, x'.f3, x'.f4, x'.f5, x'.f6, ns⟩ := ⟨_, rfl⟩
                have HY := Aside0.mk hy
                clear hC hcu hy hlt ha
                cases hok : okX y with
                | true =>
                  have HCK : Aside0 (checkOf ⟨x'.f0, x'.f1, x'.f2, x'.f3, x'.f4, x'.f5, x'.f6, ns⟩ = 0) := ⟨by rw [← HY.out, checkOf_ok, hok]; rfl⟩
                  have HR : Aside0 (fillOf k ws = some y) := ⟨by rw [HFO.out]; unfold fillRest; simp only; rw [HNS.out]; simp only [Option.bind_some]; rw [← HY.out, if_pos hok]⟩
                  clear hok
                  go_wp2_with (first
                    | (refine wpList_load_row rfl 24 (.tmp 100) rfl g rfl 24 (evC x' (.slice Au ns.length cu)) (0, 0) _ BG.out Tryd.underlying24 rfl (by kernel_rfl) ?_)
                    | (go_at_call 10; refine (chk_any ⟨x'.f0, x'.f1, x'.f2, x'.f3, x'.f4, x'.f5, x'.f6, ns⟩ Au cu _ HC.out HCU.out).mono ?_; rw [HCK.out]; rintro e w5 ⟨rfl, hb⟩; have NB := Aside0.mk hb; clear hb))
                  go_ret
                  rw [HR.out]
                  exact ⟨rfl, ⟨_, by rw [HY.out]; exact blk_below BG.out NB.out, by rw [HY.out]; exact Kd.R_mono (Kd.R_lower (Kd.R_below HO.out NB.out) FRW.out.size) (fun k hk => Nat.le_trans FRW.out.size hk)⟩, FRX.out.trans (Fr.of_below (NB.out.mono FRX.out.size))⟩
                | false =>
                  have HCK : Aside0 (checkOf ⟨x'.f0, x'.f1, x'.f2, x'.f3, x'.f4, x'.f5, x'.f6, ns⟩ = 180) := ⟨by rw [← HY.out, checkOf_ok, hok]; rfl⟩
                  have HR : Aside0 (fillOf k ws = none) := ⟨by rw [HFO.out]; unfold fillRest; simp only; rw [HNS.out]; simp only [Option.bind_some]; rw [← HY.out, if_neg (by rw [hok]; decide)]⟩
                  clear hok
                  go_wp2_with (first
                    | (refine wpList_load_row rfl 24 (.tmp 100) rfl g rfl 24 (evC x' (.slice Au ns.length cu)) (0, 0) _ BG.out Tryd.underlying24 rfl (by kernel_rfl) ?_)
                    | (go_at_call 10; refine (chk_any ⟨x'.f0, x'.f1, x'.f2, x'.f3, x'.f4, x'.f5, x'.f6, ns⟩ Au cu _ HC.out HCU.out).mono ?_; rw [HCK.out]; rintro e w5 ⟨rfl, hb⟩; have NB := Aside0.mk hb; clear hb))
                  go_ret
                  rw [HR.out]
                  exact ⟨rfl, ⟨_, _, _, _, blk_below BG.out NB.out⟩, FRX.out.trans (Fr.of_below (NB.out.mono FRX.out.size))⟩
end Go.Proofs.YtiapfhlipoomaaaDoor.Given
