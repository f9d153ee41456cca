/- The walk of the law ScanJoins, where both sources are scanned. -/
import Derived.Test.YtmingnhhmaclaaaGivenX
import Derived.Deep.DeepCutAuto
import Derived.Deep.LoopGhost
import Derived.Deep.CutBlock
import Derived.Deep.RegionHeld3
import Derived.Deep.AppendLies
namespace Go.Proofs.Ytmingnhhmaclaaa.Given
open Go.RowKit Go.Proofs.YtmingnhhmaclaaaW.PrintWords Go.Proofs.Ytmingnhhmaclaaa.Print

theorem cells40 {W0 : World} {A : Option Addr} {xs : List S40} (h : Kd.C k40 W0 A xs.length xs) (q : Nat) (t : S40) (ht : xs[q]? = some t) :
    ∃ ad, A = some ad ∧ ∀ W, Below W0.heap.size W0 W → W.cell? (ad.add (q * 4)) = some (.int .i64 t.f0) ∧ W.cell? ⟨(ad.add (q * 4)).block, (ad.add (q * 4)).off + 1, none⟩ = some (.int .i64 t.f1) ∧ W.cell? ⟨(ad.add (q * 4)).block, (ad.add (q * 4)).off + 2, none⟩ = some (.int .i64 t.f2) ∧ W.cell? ⟨(ad.add (q * 4)).block, (ad.add (q * 4)).off + 3, none⟩ = some (.int .i64 t.f3) := by
  obtain ⟨hl, _⟩ := List.getElem?_eq_some_iff.1 ht
  obtain ⟨ad, e, x0, x1, x2, x3⟩ := at_T40 h (q : Int) (by omega) (by omega)
  have hel : rd_T40 xs q = t := by
    unfold rd_T40
    rw [Int.toNat_natCast, List.getD_eq_getElem?_getD, ht]
    rfl
  rw [hel, Int.toNat_natCast] at x0 x1 x2 x3
  exact ⟨ad, e, fun W hb => ⟨pw_cell_below hb x0, pw_cell_below hb x1, pw_cell_below hb x2, pw_cell_below hb x3⟩⟩

set_option maxHeartbeats 8000000 in
set_option maxRecDepth 100000 in
theorem joins_good (A : Option Addr) (c : Nat) (l : List Int) (B : Option Addr) (d : Nat) (l2 : List Int) (k : Int) (w : World) (hr : Kd.C (Kd.int .u8) w A l.length l) (hc : l.length ≤ c) (hr2 : Kd.C (Kd.int .u8) w B l2.length l2) (hc2 : l2.length ≤ d)
    (h1 : (scanAll l).2.2 = 0) (h2 : (scanAll l2).2.2 = 0) (hk : -9223372036854775808 ≤ k ∧ k ≤ 9223372036854775807) :
    Calls Try.prog 6 #[.slice A l.length c, .slice B l2.length d, .int .i64 k] w fun e w' => e = .returned (.bool true) ∧ Below w.heap.size w w' := by
  have hm := hr.2.1
  have hm2 := hr2.2.1
  obtain ⟨ts, hS, hT⟩ := scanAll_toks l h1
  obtain ⟨us, hS2, hT2⟩ := scanAll_toks l2 h2
  have hl : l.length ≤ 65536 := by
    unfold scanAll at h1
    split at h1
    · simp at h1
    · omega
  have hl2 : l2.length ≤ 65536 := by
    unfold scanAll at h2
    split at h2
    · simp at h2
    · omega
  have hsc := fun W (hb : Below w.heap.size w W) => scan_Scan.calls A c l ts 0 0 W (Kd.C_below hr hb) hc (by unfold scan_Scan.f; rw [hS])
  have HSC := Aside0.mk hsc
  have hsc2 := fun W (hb : Below w.heap.size w W) => scan_Scan.calls B d l2 us 0 0 W (Kd.C_below hr2 hb) hc2 (by unfold scan_Scan.f; rw [hS2])
  have HSC2 := Aside0.mk hsc2
  have hj := fun m => scanAll_join l l2 m h1 h2
  rw [hS, hS2] at hj
  have HJ := Aside0.mk hj
  have HW := Aside0.mk (scanAll_wide l ts hT)
  have hwl := hT.wide_len
  have hul := hT2.wide_len.2
  rw [Nat.sub_zero] at hwl hul
  have HG := Aside0.mk hT.good
  have HGU := Aside0.mk hT2.good
  have HR := Aside0.mk hr
  have HR2 := Aside0.mk hr2
  clear hr hr2 hS hS2 hsc hsc2 h1 h2 hT hT2 hj
  go_enter Try.func6, Try.ntmps6
  go_wp2_with (first | (go_at_call 8; refine (shown_any _).mono ?_; rintro e w1 ⟨rfl, hb1⟩; have HB1 := Aside0.mk hb1; clear hb1))
  refine (HSC.out _ HB1.out).mono ?_
  rintro e w2 ⟨v0, rfl, hR, hb2⟩
  have HB2 := Aside0.mk (below_then HB1.out HB1.out.size hb2)
  have HO2 := Aside0.mk (Kd.R_lower hR HB1.out.size)
  clear hR hb2
  go_wp2_with (fail)
  refine (HSC2.out _ (below_alloc HB2.out _)).mono ?_
  rintro e w3 ⟨v1, rfl, hR, hb3⟩
  have HB3 := Aside0.mk (below_then (below_alloc HB2.out _) (below_alloc HB2.out _).size hb3)
  have HO3 := Aside0.mk (Kd.R_below (Kd.R_alloc HO2.out _) hb3)
  have HP3 := Aside0.mk (Kd.R_lower hR (below_alloc HB2.out _).size)
  have hG8 := heap_keep (heap_alloc_new w2 _) hb3
  have hz1 : ∀ o : Obj, (w3.alloc o).cell? ⟨w2.heap.size, 1, none⟩ = some (.int .i64 0) := fun o => pw_cell_below (below_alloc (Below.refl _ w3) o) ((cell_of_row _ _ 1 _ _ _ hG8).trans rfl)
  clear hR hb3 hG8
  go_upto_if 44 with (fail)
  go_cut [2] (fun v2 wc => ∃ z : Int, v2 = .int .i64 z ∧ Aside0 (0 ≤ z) ∧ Aside0 (Below w.heap.size w wc) ∧ Aside0 (Kd.R k40 40 wc w.heap.size (fun _ => True) v0 ts) ∧ Aside0 (Kd.R k40 40 wc w.heap.size (fun _ => True) v1 us))
  case first =>
    by_cases h0 : k < 0
    · have h0' : decide (k < 0) = true := decide_eq_true h0
      go_wp2_with (fail)
      go_meet
      case rel => exact ⟨-(k + 1), by go_num, ⟨by omega⟩, ⟨below_alloc HB3.out _⟩, ⟨Kd.R_alloc HO3.out _⟩, ⟨Kd.R_alloc HP3.out _⟩⟩
    · have h0' : decide (k < 0) = false := decide_eq_false h0
      go_wp2_with (fail)
      go_meet
      case rel => exact ⟨k, rfl, ⟨by omega⟩, ⟨below_alloc HB3.out _⟩, ⟨Kd.R_alloc HO3.out _⟩, ⟨Kd.R_alloc HP3.out _⟩⟩
  case rest =>
    clear hz1 HSC HSC2 HO2 HO3 HP3 HB1 HB2 HB3
    obtain ⟨z, rfl, hz, HB4, HO4, HP4⟩ := hcut
    have HC := Aside0.mk (Kd.C_below HR.out HB4.out)
    have HC2 := Aside0.mk (Kd.C_below HR2.out HB4.out)
    obtain ⟨m, hm9, hmod⟩ : ∃ m : Nat, m ≤ 8 ∧ Int.tmod z 9 = (m : Int) := ⟨(z % 9).toNat, by omega, by rw [Int.tmod_eq_emod_of_nonneg hz.out]; omega⟩
    have HMOD := Aside0.mk hmod
    clear hmod HR HR2
    go_wp2_with (first
      | ((with_reducible refine gate_dst (N := 48) rfl ?_); refine Kd.R_lit (Kd.int .u8) (w0 := wc) wc.heap.size 5 ?hg (N := 48) ?hd (xs := ([] : List Int)) (inner := []) (ok := fun _ => True) (okp := fun _ => True) ?hr ?hp (fun _ hk => hk) trivial (Below.refl _ _) (Nat.le_refl _) (by simp) ?_; (case hd => rfl); (case hg => rfl); (case hr => first | (go_simp; done) | (go_simp; rfl)); (case hp => exact (Reps.none _ _)); intro v5 w5 ho5 hb5 _ _; have HO5 := Aside0.mk ho5; have HB5 := Aside0.mk hb5; clear ho5 hb5)
      | ((with_reducible refine gate_builtin (b := .append) (xs := #[.tmp 48, .tmp 49]) rfl ?_); at_builtin; refine Kd.R_append_rows (Kd.int .u8) (w0 := wc) wc.heap.size rfl (.tmp 48) (.tmp 49) 26 5 (.int .u8 0) 1 rfl Try.underlying26 info5 rfl (by decide) (by omega) v5 ([] : List Int) l _ _ _ (fun _ => True) (fun _ => False) rfl rfl ?aO ?aR (fun _ _ h => h) (fun _ h => h.elim) ?aF ?aB ?aS ?aL ?_; (case aR => exact Kd.C_below HC.out HB5.out); (case aB => exact HB5.out); (case aF => exact (fun _ _ => trivial)); (case aO => exact HO5.out); (case aS => exact HB5.out.size); (case aL => simp; omega); intro v6 w6 ho6 hb6 _ _; have HO6 := Aside0.mk ho6; have HB6 := Aside0.mk hb6; clear ho6 hb6)
      | ((with_reducible refine gate_builtin (b := .append) (xs := #[.tmp 51, .tmp 52]) rfl ?_); at_builtin; refine Kd.R_append (Kd.int .u8) (w0 := wc) wc.heap.size rfl (.tmp 51) (.tmp 52) 26 5 (.int .u8 0) 1 rfl Try.underlying26 info5 rfl (by decide) (by omega) v6 (([] : List Int) ++ l) (10 : Int) [.int .u8 10] (fun _ => True) (fun _ => False) rfl rfl ?aP (fun _ hk => hk.elim) ?aF ?aO ?aB ?aS ?aL ?_; (case aP => exact rfl); (case aB => exact HB6.out); (case aF => exact (fun _ _ => trivial)); (case aO => exact HO6.out); (case aS => exact HB6.out.size); (case aL => simp; omega); intro v7 w7 ho7 hb7 _ _; have HO7 := Aside0.mk ho7; have HB7 := Aside0.mk hb7; clear ho7 hb7))
    go_loopw [12, 13] (fun v i wr => ∃ n : Nat, i = .int .i64 n ∧ n ≤ m ∧ Aside0 (Kd.R (Kd.int .u8) 5 wr wc.heap.size (fun _ => True) v (l ++ 10 :: List.replicate n 32)) ∧ Aside0 (Below wc.heap.size wc wr)) (fun _ i _ => m - (intOf i).toNat)
    case atStart => exact ⟨0, rfl, by omega, ⟨by have := HO7.out; simpa using this⟩, HB7⟩
    case round =>
      obtain ⟨n, rfl, hn, HOn, HBn⟩ := hrel
      by_cases hlt : n < m
      · have hd : decide ((n : Int) < Int.tmod z 9) = true := decide_eq_true (by rw [HMOD.out]; omega)
        go_wp2_with (first
          | ((with_reducible refine gate_builtin (b := .append) (xs := #[.tmp 60, .tmp 61]) rfl ?_); at_builtin; refine Kd.R_append (Kd.int .u8) (w0 := wc) wc.heap.size rfl (.tmp 60) (.tmp 61) 26 5 (.int .u8 0) 1 rfl Try.underlying26 info5 rfl (by decide) (by omega) u12 (l ++ 10 :: List.replicate n 32) (32 : Int) [.int .u8 32] (fun _ => True) (fun _ => False) rfl rfl ?aP (fun _ hk => hk.elim) ?aF ?aO ?aB ?aS ?aL ?_; (case aP => exact rfl); (case aB => exact HBn.out); (case aF => exact (fun _ _ => trivial)); (case aO => exact HOn.out); (case aS => exact HBn.out.size); (case aL => simp; omega); intro v8 w8 ho8 hb8 _ _; have HO8 := Aside0.mk ho8; have HB8 := Aside0.mk hb8; clear ho8 hb8))
        go_roundw
        case rel => exact ⟨n + 1, by go_num, by omega, ⟨by have := HO8.out; rw [List.replicate_succ']; simpa using this⟩, HB8⟩
        case measure => simp [intOf]; omega
      · obtain rfl : n = m := by omega
        have hd : decide ((n : Int) < Int.tmod z 9) = false := decide_eq_false (by rw [HMOD.out]; omega)
        obtain ⟨A5, c5, rfl, hc5, hC5⟩ := Kd.R_reads HOn.out
        clear hC5
        go_wp2_with (first
          | ((with_reducible refine gate_builtin (b := .append) (xs := #[.tmp 65, .tmp 66]) rfl ?_); at_builtin; refine Kd.R_append_rows (Kd.int .u8) (w0 := wc) wc.heap.size rfl (.tmp 65) (.tmp 66) 26 5 (.int .u8 0) 1 rfl Try.underlying26 info5 rfl (by decide) (by omega) _ (l ++ 10 :: List.replicate n 32) l2 _ _ _ (fun _ => True) (fun _ => False) rfl rfl ?aO ?aR (fun _ _ h => h) (fun _ h => h.elim) ?aF ?aB ?aS ?aL ?_; (case aR => exact Kd.C_below HC2.out HBn.out); (case aB => exact HBn.out); (case aF => exact (fun _ _ => trivial)); (case aO => exact HOn.out); (case aS => exact HBn.out.size); (case aL => simp; omega); intro v8 w8 ho8 hb8 _ _; have HO8 := Aside0.mk ho8; have HB8 := Aside0.mk hb8; clear ho8 hb8)
          | ((with_reducible refine gate_dst (N := 68) rfl ?_); refine Kd.R_lit (Kd.int .u8) (w0 := w8) w8.heap.size 5 ?hg (N := 68) ?hd (xs := ([] : List Int)) (inner := []) (ok := fun _ => True) (okp := fun _ => True) ?hr ?hp (fun _ hk => hk) trivial (Below.refl _ _) (Nat.le_refl _) (by simp) ?_; (case hd => rfl); (case hg => rfl); (case hr => first | (go_simp; done) | (go_simp; rfl)); (case hp => exact (Reps.none _ _)); intro v9 w9 ho9 hb9 _ _; have HO9 := Aside0.mk ho9; have HB9 := Aside0.mk hb9; clear ho9 hb9))
        have HO4' := Aside0.mk (Kd.R_below HO4.out HB8.out)
        have HP4' := Aside0.mk (Kd.R_below HP4.out HB8.out)
        have HC' := Aside0.mk (Kd.C_below HC.out HB8.out)
        have HB4' := Aside0.mk (below_then HB4.out HB4.out.size HB8.out)
        obtain ⟨A1, c1, rfl, hc1, hC1⟩ := Kd.R_reads HO4'.out
        obtain ⟨A2, c2, rfl, hc2', hC2⟩ := Kd.R_reads HP4'.out
        clear HO4 HP4 HC HB4 HOn HBn HO5 HB5 HO6 HB6 HO7 HB7 HC2 hC1 hC2
        go_loopw [15, 16] (fun v i wr => ∃ q : Nat, i = .int .i64 q ∧ q ≤ ts.length ∧ Aside0 (Kd.R (Kd.int .u8) 5 wr w8.heap.size (fun _ => True) v (wideOf l (ts.take q))) ∧ Aside0 (Below w8.heap.size w8 wr)) (fun _ i _ => ts.length - (intOf i).toNat)
        case atStart => exact ⟨0, rfl, by omega, HO9, HB9⟩
        case round =>
          obtain ⟨q, rfl, hq, HOq, HBq⟩ := hrel
          by_cases hlt2 : q < ts.length
          · obtain ⟨t, hqt⟩ : ∃ t, ts[q]? = some t := ⟨ts[q], List.getElem?_eq_getElem hlt2⟩
            obtain ⟨p, k1, m1, v1, y1, rfl, hp, hnb, h35, htok, hm1, hpm⟩ := HG.out t (List.mem_of_getElem? hqt)
            have hel : rd_T40 ts q = ⟨k1, p, m1, v1⟩ := by
              unfold rd_T40
              rw [Int.toNat_natCast, List.getD_eq_getElem?_getD, hqt]
              rfl
            obtain ⟨hn', hcc, hC40⟩ := Kd.R_reads' HO4'.out
            obtain ⟨ad, e1, x0, x1, x2, x3⟩ := at_T40 hC40 (q : Int) (by omega) (by omega)
            cases e1
            rw [hel, Int.toNat_natCast] at x1 x2
            dsimp only at x1 x2
            have HX1 := Aside0.mk x1
            have HX2 := Aside0.mk x2
            obtain ⟨A3, hcut3, hr3, hl3⟩ := mid_read HC'.out hc p (p + m1) (by omega) hpm
            rw [show p + m1 - p = m1 by omega] at hcut3 hl3
            simp only [Int.natCast_add] at hcut3
            have HR3 := Aside0.mk hr3
            have HL3 := Aside0.mk hl3
            have hsn := wide_snoc l ts q _ hqt
            have hwt := wide_take l ts q
            have HSN := Aside0.mk hsn
            have htx : textAt l ⟨k1, p, m1, v1⟩ = (l.take (p + m1)).drop p := by
              have e1 : ((p : Int) + (m1 : Int)).toNat = p + m1 := by omega
              simp only [textAt, e1, Int.toNat_natCast]
            have HTX := Aside0.mk htx
            have hwrap : IntKind.i64.wrap ((p : Int) + (m1 : Int)) = (p : Int) + (m1 : Int) := Go.IntWalk.i64_in _ (by omega)
            clear x0 x1 x2 x3 hel hn' hcc hC40 hnb h35 htok hqt hr3 hl3 hsn htx
            go_wp2_with (first
              | (at_builtin; refine print_append_str (w0 := w8) w8.heap.size rfl (.tmp 75) _ 26 9 5 rfl Try.underlying26 Try.underlying9 info5 u15 (wideOf l (ts.take q)) (⟨#[9, 35, 32, 59]⟩ : ByteArray) rfl rfl ?aO ?aB ?aS ?aL ?_; (case aO => exact Kd.own_of_R HOq.out); (case aB => exact HBq.out); (case aS => exact HBq.out.size); (case aL => have : (⟨#[9, 35, 32, 59]⟩ : ByteArray).size = 4 := rfl; omega); intro v10 w10 ho10 hb10 _; have HO10 := Aside0.mk (Kd.R_of_own (h1 := fun _ => rfl) (ok := fun _ => True) ho10 (fun _ _ => trivial)); have HB10 := Aside0.mk hb10; clear ho10 hb10)
              | ((with_reducible refine gate_builtin (b := .append) (xs := #[.tmp 77, .tmp 78]) rfl ?_); at_builtin; refine Kd.R_append (Kd.int .u8) (w0 := w8) w8.heap.size rfl (.tmp 77) (.tmp 78) 26 5 (.int .u8 0) 1 rfl Try.underlying26 info5 rfl (by decide) (by omega) v10 (wideOf l (ts.take q) ++ bytesOf (⟨#[9, 35, 32, 59]⟩ : ByteArray)) (10 : Int) [.int .u8 10] (fun _ => True) (fun _ => False) rfl rfl ?aP (fun _ hk => hk.elim) ?aF ?aO ?aB ?aS ?aL ?_; (case aP => exact rfl); (case aB => exact HB10.out); (case aF => exact (fun _ _ => trivial)); (case aO => exact HO10.out); (case aS => exact HB10.out.size); (case aL => have : (bytesOf (⟨#[9, 35, 32, 59]⟩ : ByteArray)).length = 4 := rfl; simp; omega); intro v11 w11 ho11 hb11 _ _; have HO11 := Aside0.mk ho11; have HB11 := Aside0.mk hb11; have hx1 := pw_cell_below HB11.out HX1.out; have hx2 := pw_cell_below HB11.out HX2.out; clear ho11 hb11))
            go_region_held3 (fun W => W.cell? ⟨(ad.add (q * 4)).block, (ad.add (q * 4)).off + 1, none⟩ = some (.int .i64 p) ∧ W.cell? ⟨(ad.add (q * 4)).block, (ad.add (q * 4)).off + 2, none⟩ = some (.int .i64 m1))
              (first | go_keep | exact ⟨pw_cell_below hb12 HX1.out, pw_cell_below hb12 HX2.out⟩)
              ((refine Kd.R_append_rows_step (Kd.int .u8) (w0 := w8) w8.heap.size (by rfl) (.tmp 80) (.tmp 98) 26 5 (.int .u8 0) 1 (by rfl) Try.underlying26 info5 (by rfl) (by decide) (by omega) v11 (wideOf l (ts.take q) ++ bytesOf (⟨#[9, 35, 32, 59]⟩ : ByteArray) ++ [10]) ((l.take (p + m1)).drop p) A3 m1 _ (fun _ => True) (fun _ => False) (by rfl) (by rfl) (Kd.R_drew HO11.out) (by have := Kd.C_below HR3.out (below_drew HB11.out); rw [HL3.out] at this; exact this) (fun _ _ h => h) (fun _ h => h.elim) (fun _ _ => trivial) (below_drew HB11.out) (below_drew HB11.out).size (by have : (bytesOf (⟨#[9, 35, 32, 59]⟩ : ByteArray)).length = 4 := rfl; simp; omega) ?_; intro v12 w12 ho12 hb12 _ _))
            have HO12 := Aside0.mk ho12
            have HB12 := Aside0.mk hb12
            clear ho12 hb12 hx1 hx2
            go_wp2_with (fail)
            go_roundw
            case rel => exact ⟨q + 1, by go_num, by omega, ⟨by rw [HSN.out]; have h := HO12.out; rw [show bytesOf (⟨#[9, 35, 32, 59]⟩ : ByteArray) = [9, 35, 32, 59] from rfl] at h; simpa only [wideT, HTX.out, List.append_assoc, List.cons_append, List.nil_append] using h⟩, HB12⟩
            case measure => simp [intOf]; omega
          · obtain rfl : q = ts.length := by omega
            obtain ⟨LW, hLW⟩ : ∃ LW, LW = wideOf l ts := ⟨_, rfl⟩
            obtain ⟨LA, hLA⟩ : ∃ LA, LA = l ++ 10 :: (List.replicate n 32 ++ l2) := ⟨_, rfl⟩
            obtain ⟨LS, hLS⟩ : ∃ LS, LS = ts ++ us.map (shiftT (l.length + 1 + n)) := ⟨_, rfl⟩
            have hj := HJ.out n
            have HWD := Aside0.mk HW.out
            rw [← hLW] at hwl HWD
            rw [← hLA, ← hLS] at hj
            have hlA : LA.length = l.length + 1 + n + l2.length := by rw [hLA]; simp; omega
            have hlS : LS.length = ts.length + us.length := by rw [hLS]; simp
            have HJ' := Aside0.mk hj
            have HlA := Aside0.mk hlA
            have HlS := Aside0.mk hlS
            have hLb : LA.length ≤ 140000 := by omega
            have hSb : LS.length ≤ 140000 := by omega
            have hTb : ts.length ≤ 65536 := by omega
            clear hlA hlS
            have hA8 := HO8.out
            rw [List.append_assoc, List.cons_append, ← hLA] at hA8
            have hW9 := HOq.out
            rw [List.take_length, ← hLW] at hW9
            have HA8 := Aside0.mk (Kd.R_below hA8 HBq.out)
            have HW9 := Aside0.mk hW9
            have HLS := Aside0.mk hLS
            have HB5 := Aside0.mk (below_then HB4'.out HB4'.out.size HBq.out)
            have HO5 := Aside0.mk (Kd.R_below HO4'.out HBq.out)
            have HP5 := Aside0.mk (Kd.R_below HP4'.out HBq.out)
            obtain ⟨A6, c6, rfl, hc6, hC6⟩ := Kd.R_reads HA8.out
            obtain ⟨A7, c7, rfl, hc7, hC7⟩ := Kd.R_reads HW9.out
            have HC6 := Aside0.mk hC6
            have HC7 := Aside0.mk hC7
            clear hC6 hC7 hj hA8 hW9 hLW hLA hLS HJ HW HOq HBq HO4' HP4' HC' HB4' HO8 HB8 HO9 HB9 HA8 HW9
            by_cases ha : 65536 < LA.length
            · have ha' : decide ((65536 : Int) < (LA.length : Int)) = true := decide_eq_true (by omega)
              go_wp2_with (fail)
              go_ret
              exact ⟨rfl, HB5.out⟩
            · have ha' : decide ((65536 : Int) < (LA.length : Int)) = false := decide_eq_false (by omega)
              by_cases hb : 65536 < LW.length
              · have hb' : decide ((65536 : Int) < (LW.length : Int)) = true := decide_eq_true (by omega)
                go_wp2_with (fail)
                go_ret
                exact ⟨rfl, HB5.out⟩
              · have hb' : decide ((65536 : Int) < (LW.length : Int)) = false := decide_eq_false (by omega)
                have hsc := fun W (hbb : Below wr.heap.size wr W) => scan_Scan.calls A6 c6 LA LS 0 0 W (Kd.C_below HC6.out hbb) hc6 (by unfold scan_Scan.f; rw [HJ'.out (by omega)])
                have HSCA := Aside0.mk hsc
                clear hsc
                go_wp2_with (fail)
                refine (HSCA.out _ (Below.refl _ _)).mono ?_
                rintro e w13 ⟨v13, rfl, hR13, hb13⟩
                obtain ⟨A8, c8, rfl, hc8, hC8⟩ := Kd.R_reads hR13
                have HC8 := Aside0.mk hC8
                have HB13 := Aside0.mk (below_then HB5.out HB5.out.size hb13)
                have HO13 := Aside0.mk (Kd.R_below HO5.out hb13)
                have HP13 := Aside0.mk (Kd.R_below HP5.out hb13)
                have HC7' := Aside0.mk (Kd.C_below HC7.out hb13)
                have hne1 : ((LS.length : Int) == (ts.length : Int) + (us.length : Int)) = true := beq_iff_eq.2 (by have := HlS.out; omega)
                have hne2 : ((LS.length : Int) != (ts.length : Int) + (us.length : Int)) = false := bne_eq_false_iff_eq.2 (by have := HlS.out; omega)
                clear hC8 hR13 hb13 HO5 HP5 HC6 HC7 HB5 HSCA HJ'
                go_wp2_with (fail)
                go_loopw [19] (fun i W => ∃ q : Nat, i = .int .i64 q ∧ q ≤ LS.length ∧ Aside0 (Below w13.heap.size w13 W) ∧ Aside0 (W.heap[w13.heap.size]? = some (.cells #[.int .i64 0, .int .i64 0] 34 (0, 0)))) (fun i _ => LS.length - (intOf i).toNat)
                case atStart => exact ⟨0, rfl, by omega, ⟨below_alloc (Below.refl _ _) _⟩, ⟨heap_alloc_new _ _⟩⟩
                case round =>
                  obtain ⟨q, rfl, hq, HBq, HGq⟩ := hrel
                  by_cases hlt3 : q < LS.length
                  · by_cases hlt4 : q < ts.length
                    · obtain ⟨⟨f0, f1, f2, f3⟩, hqt⟩ : ∃ t, ts[q]? = some t := ⟨ts[q], List.getElem?_eq_getElem hlt4⟩
                      have hqs : LS[q]? = some ⟨f0, f1, f2, f3⟩ := by rw [HLS.out, List.getElem?_append_left hlt4]; exact hqt
                      obtain ⟨hn1, hn2, hC1⟩ := Kd.R_reads' HO13.out
                      obtain ⟨ad1, e1, hx⟩ := cells40 hC1 q _ hqt
                      obtain ⟨ad8, e8, hy⟩ := cells40 HC8.out q _ hqs
                      have HX := Aside0.mk hx
                      have HY := Aside0.mk hy
                      cases e1
                      cases e8
                      have hx0 : ∀ o : Obj, (wr.alloc o).cell? (ad1.add (q * 4)) = some (.int .i64 f0) := fun o => (HX.out _ (below_alloc HBq.out o)).1
                      have hx1 : ∀ o : Obj, (wr.alloc o).cell? ⟨(ad1.add (q * 4)).block, (ad1.add (q * 4)).off + 1, none⟩ = some (.int .i64 f1) := fun o => (HX.out _ (below_alloc HBq.out o)).2.1
                      have hx2 : ∀ o : Obj, (wr.alloc o).cell? ⟨(ad1.add (q * 4)).block, (ad1.add (q * 4)).off + 2, none⟩ = some (.int .i64 f2) := fun o => (HX.out _ (below_alloc HBq.out o)).2.2.1
                      have hx3 : ∀ o : Obj, (wr.alloc o).cell? ⟨(ad1.add (q * 4)).block, (ad1.add (q * 4)).off + 3, none⟩ = some (.int .i64 f3) := fun o => (HX.out _ (below_alloc HBq.out o)).2.2.2
                      have hy0 : ∀ o : Obj, (wr.alloc o).cell? (ad8.add (q * 4)) = some (.int .i64 f0) := fun o => (HY.out _ (below_alloc HBq.out o)).1
                      have hy1 : ∀ o : Obj, (wr.alloc o).cell? ⟨(ad8.add (q * 4)).block, (ad8.add (q * 4)).off + 1, none⟩ = some (.int .i64 f1) := fun o => (HY.out _ (below_alloc HBq.out o)).2.1
                      have hy2 : ∀ o : Obj, (wr.alloc o).cell? ⟨(ad8.add (q * 4)).block, (ad8.add (q * 4)).off + 2, none⟩ = some (.int .i64 f2) := fun o => (HY.out _ (below_alloc HBq.out o)).2.2.1
                      have hy3 : ∀ o : Obj, (wr.alloc o).cell? ⟨(ad8.add (q * 4)).block, (ad8.add (q * 4)).off + 3, none⟩ = some (.int .i64 f3) := fun o => (HY.out _ (below_alloc HBq.out o)).2.2.2
                      clear hqt hqs hn1 hn2 hC1 hx hy
                      go_wp2_with (fail)
                      go_quiet (fail)
                      go_wp2_with (fail)
                      go_roundw
                      case rel => exact ⟨q + 1, by go_num, by omega, ⟨pw_below_drewN (below_alloc HBq.out _) _⟩, ⟨heap_keep HGq.out (pw_below_drewN (below_alloc (Below.refl _ _) _) _)⟩⟩
                      case measure => simp [intOf]; omega
                    · obtain ⟨j, rfl⟩ : ∃ j, q = ts.length + j := ⟨q - ts.length, by omega⟩
                      have hju : j < us.length := by have := HlS.out; omega
                      have hqj : ((ts.length + j : Nat) : Int) - (ts.length : Int) = (j : Int) := by omega
                      obtain ⟨⟨f0, f1, f2, f3⟩, hqt⟩ : ∃ t, us[j]? = some t := ⟨us[j], List.getElem?_eq_getElem hju⟩
                      have hqs : LS[ts.length + j]? = some ⟨f0, f1 + (l.length + 1 + n : Nat), f2, f3⟩ := by
                        rw [HLS.out, List.getElem?_append_right (by omega), Nat.add_sub_cancel_left, List.getElem?_map, hqt]
                        rfl
                      obtain ⟨hn1, hn2, hC1⟩ := Kd.R_reads' HP13.out
                      obtain ⟨ad1, e1, hx⟩ := cells40 hC1 j _ hqt
                      obtain ⟨ad8, e8, hy⟩ := cells40 HC8.out (ts.length + j) _ hqs
                      obtain ⟨p, _, _, _, _, he, hpl, _⟩ := HGU.out _ (List.mem_of_getElem? hqt)
                      obtain rfl : f1 = (p : Int) := by injection he
                      have hf : (p : Int) + ((l.length + 1 + n : Nat) : Int) = (p : Int) + ((l.length : Int) + ((n : Int) + 1)) := by omega
                      simp only [hf] at hy
                      have HX := Aside0.mk hx
                      have HY := Aside0.mk hy
                      cases e1
                      cases e8
                      have hx0 : ∀ o : Obj, (wr.alloc o).cell? (ad1.add (j * 4)) = some (.int .i64 f0) := fun o => (HX.out _ (below_alloc HBq.out o)).1
                      have hx1 : ∀ o : Obj, (wr.alloc o).cell? ⟨(ad1.add (j * 4)).block, (ad1.add (j * 4)).off + 1, none⟩ = some (.int .i64 p) := fun o => (HX.out _ (below_alloc HBq.out o)).2.1
                      have hx2 : ∀ o : Obj, (wr.alloc o).cell? ⟨(ad1.add (j * 4)).block, (ad1.add (j * 4)).off + 2, none⟩ = some (.int .i64 f2) := fun o => (HX.out _ (below_alloc HBq.out o)).2.2.1
                      have hx3 : ∀ o : Obj, (wr.alloc o).cell? ⟨(ad1.add (j * 4)).block, (ad1.add (j * 4)).off + 3, none⟩ = some (.int .i64 f3) := fun o => (HX.out _ (below_alloc HBq.out o)).2.2.2
                      have hy0 : ∀ o : Obj, (wr.alloc o).cell? (ad8.add ((ts.length + j) * 4)) = some (.int .i64 f0) := fun o => (HY.out _ (below_alloc HBq.out o)).1
                      have hy1 : ∀ o : Obj, (wr.alloc o).cell? ⟨(ad8.add ((ts.length + j) * 4)).block, (ad8.add ((ts.length + j) * 4)).off + 1, none⟩ = some (.int .i64 ((p : Int) + ((l.length : Int) + ((n : Int) + 1)))) := fun o => (HY.out _ (below_alloc HBq.out o)).2.1
                      have hy2 : ∀ o : Obj, (wr.alloc o).cell? ⟨(ad8.add ((ts.length + j) * 4)).block, (ad8.add ((ts.length + j) * 4)).off + 2, none⟩ = some (.int .i64 f2) := fun o => (HY.out _ (below_alloc HBq.out o)).2.2.1
                      have hy3 : ∀ o : Obj, (wr.alloc o).cell? ⟨(ad8.add ((ts.length + j) * 4)).block, (ad8.add ((ts.length + j) * 4)).off + 3, none⟩ = some (.int .i64 f3) := fun o => (HY.out _ (below_alloc HBq.out o)).2.2.2
                      clear hqt hqs hn1 hn2 hC1 hx hy he hf
                      go_wp2_with (fail)
                      go_quiet (fail)
                      go_wp2_with (fail)
                      go_roundw
                      case rel => exact ⟨ts.length + j + 1, by go_num, by omega, ⟨pw_below_drewN (below_alloc HBq.out _) _⟩, ⟨heap_keep HGq.out (pw_below_drewN (below_alloc (Below.refl _ _) _) _)⟩⟩
                      case measure => simp [intOf]; omega
                  · obtain rfl : q = LS.length := by omega
                    obtain ⟨us2, hs2, hl2', hlike⟩ := HWD.out (by omega)
                    have hsc := fun W (hbb : Below wr.heap.size wr W) => scan_Scan.calls A7 c7 LW us2 0 0 W (Kd.C_below (Kd.C_below HC7'.out HBq.out) hbb) hc7 (by unfold scan_Scan.f; rw [hs2])
                    have HSCW := Aside0.mk hsc
                    have HLK := Aside0.mk hlike
                    have HL2 := Aside0.mk hl2'
                    clear hsc hlike hl2' hs2
                    go_wp2_with (fail)
                    refine (HSCW.out _ (Below.refl _ _)).mono ?_
                    rintro e w14 ⟨v14, rfl, hR14, hb14⟩
                    obtain ⟨A9, c9, rfl, hc9, hC9⟩ := Kd.R_reads hR14
                    have he1 : ((us2.length : Int) == (ts.length : Int)) = true := beq_iff_eq.2 (by have := HL2.out; omega)
                    have he2 : ((us2.length : Int) != (ts.length : Int)) = false := bne_eq_false_iff_eq.2 (by have := HL2.out; omega)
                    have hlt5 : w13.heap.size < wr.heap.size := (Array.getElem?_eq_some_iff.1 HGq.out).1
                    have HR14 := Aside0.mk (Kd.R_step (w1 := w14.setRow w13.heap.size #[.int .i64 0, .int .i64 0]) (Kd.R_bound hR14) (fun k hk _ => setRow_other w14 w13.heap.size k _ (by have := hk.2.1; omega)))
                    have HG14 := Aside0.mk (heap_keep HGq.out hb14)
                    have HB14 := Aside0.mk (below_then HBq.out HBq.out.size hb14)
                    clear hR14 hC9 hb14
                    go_wp2_with (refine wpList_store_row rfl 34 (.tmp 18) (.tmp 164) rfl w13.heap.size #[.int .i64 0, .int .i64 0] rfl rfl 34 _ HG14.out (by kernel_rfl) rfl (by kernel_rfl) ?_; have hb15 : Below w13.heap.size w13 (w14.setRow w13.heap.size #[.int .i64 0, .int .i64 0]) := below_setRow HB14.out (Nat.le_refl _) _; have hg15 := cell_of_row _ _ 1 _ _ _ (setRow_heap w14 w13.heap.size _ #[.int .i64 0, .int .i64 0] _ _ HG14.out); replace hg15 : (w14.setRow w13.heap.size #[.int .i64 0, .int .i64 0]).cell? ⟨w13.heap.size, 1, none⟩ = some (.int .i64 0) := hg15; have hr15 := HR14.out; clear HR14; generalize w14.setRow w13.heap.size #[.int .i64 0, .int .i64 0] = W15 at *; have HB15 := Aside0.mk hb15; have HR15 := Aside0.mk hr15; clear hb15 hr15)
                    have hlu : us2.length ≤ 65536 := by have := HL2.out; omega
                    clear he1 he2 hg15
                    go_loopw [22] (fun i W => ∃ q : Nat, i = .int .i64 q ∧ q ≤ us2.length ∧ Aside0 (Below W15.heap.size W15 W)) (fun i _ => us2.length - (intOf i).toNat)
                    case atStart => exact ⟨0, rfl, by omega, ⟨Below.refl _ _⟩⟩
                    case round =>
                      obtain ⟨q, rfl, hq2, HBs⟩ := hrel
                      by_cases hlt6 : q < us2.length
                      · have hqt' : q < ts.length := by have := HL2.out; omega
                        obtain ⟨⟨f0, f1, f2, f3⟩, hqt⟩ : ∃ t, ts[q]? = some t := ⟨ts[q], List.getElem?_eq_getElem hqt'⟩
                        obtain ⟨⟨g0, g1, g2, g3⟩, hqs⟩ : ∃ t, us2[q]? = some t := ⟨us2[q], List.getElem?_eq_getElem hlt6⟩
                        obtain ⟨hk1, hk2, hk3⟩ := HLK.out q _ _ hqt hqs
                        simp only at hk1 hk2 hk3
                        subst hk1 hk2 hk3
                        obtain ⟨_, _, hC1⟩ := Kd.R_reads' HO13.out
                        obtain ⟨_, _, hC9'⟩ := Kd.R_reads' HR15.out
                        obtain ⟨ad1, e1, hx⟩ := cells40 hC1 q _ hqt
                        obtain ⟨ad9, e9, hy⟩ := cells40 hC9' q _ hqs
                        obtain ⟨hx0, hx1, hx2, hx3⟩ := hx wr (below_then HB15.out HB15.out.size HBs.out)
                        obtain ⟨hy0, hy1, hy2, hy3⟩ := hy wr HBs.out
                        cases e1
                        cases e9
                        clear hqt hqs hC1 hC9' hx hy
                        dsimp only at hx0 hx1 hx2 hx3 hy0 hy1 hy2 hy3
                        go_wp2_with (fail)
                        go_quiet (fail)
                        go_wp2_with (fail)
                        go_roundw
                        case rel => exact ⟨q + 1, by go_num, by omega, ⟨pw_below_drewN HBs.out _⟩⟩
                        case measure => simp [intOf]; omega
                      · obtain rfl : q = us2.length := by omega
                        go_wp2_with (fail)
                        go_ret
                        exact ⟨rfl, below_then HB13.out HB13.out.size (below_then HB15.out HB15.out.size HBs.out)⟩
end Go.Proofs.Ytmingnhhmaclaaa.Given
