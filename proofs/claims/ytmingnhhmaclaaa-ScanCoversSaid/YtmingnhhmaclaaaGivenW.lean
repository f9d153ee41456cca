/- The walk of the law ScanCovers, where the source is scanned. -/
import Derived.Test.YtmingnhhmaclaaaGivenV
namespace Go.Proofs.Ytmingnhhmaclaaa.Given
open Go.RowKit Go.Proofs.YtmingnhhmaclaaaW.PrintWords Go.Proofs.Ytmingnhhmaclaaa.Print

set_option maxHeartbeats 8000000 in
set_option maxRecDepth 100000 in
theorem covers_good (A : Option Addr) (c : Nat) (l : List Int) (w : World) (hr : Kd.C (Kd.int .u8) w A l.length l) (hc : l.length ≤ c) (h : (scanAll l).2.2 = 0) :
    Calls Try.prog 5 #[.slice A l.length c] w fun e w' => e = .returned (.bool true) ∧ Below w.heap.size w w' := by
  have hm := hr.2.1
  have hl : l.length ≤ 65536 := by
    unfold scanAll at h
    split at h
    · simp at h
    · omega
  obtain ⟨ts, hS, hT⟩ := scanAll_toks l h
  have HT := Aside0.mk hT
  have hsc := fun W (hb : Below w.heap.size w W) => scan_Scan.calls A c l ts 0 0 W (Kd.C_below hr hb) hc (by unfold scan_Scan.f; rw [hS])
  have HSC := Aside0.mk hsc
  have HR := Aside0.mk hr
  clear hr hS hsc hT h
  go_enter Try.func5, Try.ntmps5
  go_wp2_with (first | (go_at_call 8; refine (shown_any _).mono ?_; rintro e w1 ⟨rfl, hb1⟩; have HB1 := Aside0.mk hb1; clear hb1) | (go_at_call 13; refine (HSC.out _ HB1.out).mono ?_; rintro e w2 ⟨v0, rfl, hR, hb2⟩; obtain ⟨A1, c1, rfl, _, _⟩ := Kd.R_reads hR; have HB2 := Aside0.mk (below_then HB1.out HB1.out.size hb2); have HO2 := Aside0.mk (Kd.R_lower hR HB1.out.size); clear hb2 hR))
  go_loopw [6, 7] (fun a i wr => ∃ (n b : Nat), i = .int .i64 n ∧ a = .int .i64 b ∧ n ≤ ts.length ∧ b ≤ l.length ∧ Aside0 (Toks l b (ts.drop n)) ∧ Aside0 (Below w.heap.size w wr) ∧ Aside0 (Kd.R k40 40 wr w.heap.size (fun _ => True) (.slice A1 ts.length c1) ts)) (fun _ i _ => ts.length - (intOf i).toNat)
  case atStart => exact ⟨0, 0, rfl, rfl, by omega, by omega, HT, ⟨below_alloc HB2.out _⟩, ⟨Kd.R_alloc HO2.out _⟩⟩
  case round =>
    obtain ⟨n, b, rfl, rfl, hn, hbl, HTn, HBW, HO⟩ := hrel
    by_cases hlt : n < ts.length
    · obtain ⟨hn', hcc, hC⟩ := Kd.R_reads' HO.out
      have htl : ts.length ≤ 9223372036854775807 := hC.2.1
      have hdrop := List.drop_eq_getElem_cons hlt
      have hT' := HTn.out
      rw [hdrop] at hT'
      obtain ⟨t0, ht0⟩ : ∃ t0, t0 = ts[n] := ⟨_, rfl⟩
      rw [← ht0] at hT'
      cases hT' with
      | cons _ p k m v y _ hg hp hnb h35 htok hm1 hm2 hrest =>
        have HTOK := Aside0.mk htok
        have HREST := Aside0.mk hrest
        have hel : rd_T40 ts n = ⟨k, p, m, v⟩ := by
          unfold rd_T40
          rw [Int.toNat_natCast, ht0]
          simp [List.getElem?_eq_getElem hlt]
        obtain ⟨ad, e1, x0, x1, x2, x3⟩ := at_T40 hC (n : Int) (by omega) (by omega)
        cases e1
        rw [hel, Int.toNat_natCast] at x0 x1 x2 x3
        dsimp only at x0 x1 x2 x3
        have HGAP := Aside0.mk hg
        have hpb : b ≤ p := hg.1
        clear htok hrest hel hdrop ht0 hg
        -- the bytes ahead of the token, and the token's own
        obtain ⟨A2, hcut2, hr2, hl2⟩ := mid_read HR.out hc b p hpb (by omega)
        obtain ⟨A3, hcut3, hr3, hl3⟩ := mid_read HR.out hc p (p + m) (by omega) hm2
        have HR2 := Aside0.mk hr2
        have HR3 := Aside0.mk hr3
        clear hr2 hr3
        have hpass := fun W (hb : Below w.heap.size w W) => passed_any A2 (c - b) ((l.take p).drop b) W (Kd.C_below HR2.out hb) (by omega)
        rw [hl2, HGAP.out.2.2.1] at hpass
        have HPASS := Aside0.mk hpass
        clear hpass
        have hown : (l.take (p + m)).drop p = (l.drop p).take m := by rw [List.drop_take]; congr 1; omega
        have hscan := fun W (hb : Below w.heap.size w W) => scan_Scan.calls A3 (c - p) ((l.take (p + m)).drop p) [⟨k, 0, m, v⟩] 0 0 W (Kd.C_below HR3.out hb) (by omega) (by
          unfold scan_Scan.f
          rw [hown, scanAll_alone (l.drop p) k y m v (by rw [List.length_drop]; omega) (by rw [List.length_drop]; omega) (by
            have e : rd (l.drop p) 0 = rd l p := by simp [rd]
            rw [e]; exact hnb) (by
            have e : rd (l.drop p) 0 = rd l p := by simp [rd]
            rw [e]; exact h35) HTOK.out])
        rw [hl3, show p + m - p = m by omega] at hscan
        rw [show p + m - p = m by omega] at hcut3 hl3
        simp only [Int.natCast_add] at hcut3
        have HSCAN := Aside0.mk hscan
        clear hscan hnb h35 HSC
        have hown' := hown
        have HOWN := Aside0.mk hown'
        have HL3 := Aside0.mk hl3
        clear hl2 hl3 hown hown' hn' hcc hC
        go_wp2_with (fail)
        refine (HPASS.out _ (below_alloc HBW.out _)).mono ?_
        rintro e w' ⟨rfl, rfl⟩
        go_wp2_with (fail)
        refine (HSCAN.out _ (below_alloc HBW.out _)).mono ?_
        rintro e w3 ⟨v3, rfl, hR3, hb3⟩
        obtain ⟨A4, c4, rfl, hc4, hC4⟩ := Kd.R_reads hR3
        obtain ⟨ad4, e4, y0, y1, y2, y3⟩ := at_T40 hC4 0 (by decide) (by simp)
        cases e4
        rw [show ad4.add ((0 : Int).toNat * 4) = ad4 by simp [Addr.add]] at y0 y1 y2 y3
        have HB3 := Aside0.mk (below_then (below_alloc HBW.out _) (below_alloc HBW.out _).size hb3)
        have hG8 := heap_keep (heap_alloc_new wr _) hb3
        have HO3 := Aside0.mk (Kd.R_below (Kd.R_alloc HO.out _) hb3)
        have hz0 : ∀ o : Obj, (w3.alloc o).cell? ⟨wr.heap.size, 0, none⟩ = some (.int .i64 k) := fun o => pw_cell_below (below_alloc (Below.refl _ w3) o) ((cell_of_row _ _ 0 _ _ _ hG8).trans rfl)
        have hz1 : ∀ o : Obj, (w3.alloc o).cell? ⟨wr.heap.size, 1, none⟩ = some (.int .i64 p) := fun o => pw_cell_below (below_alloc (Below.refl _ w3) o) ((cell_of_row _ _ 1 _ _ _ hG8).trans rfl)
        have hz2 : ∀ o : Obj, (w3.alloc o).cell? ⟨wr.heap.size, 2, none⟩ = some (.int .i64 m) := fun o => pw_cell_below (below_alloc (Below.refl _ w3) o) ((cell_of_row _ _ 2 _ _ _ hG8).trans rfl)
        have hz3 : ∀ o : Obj, (w3.alloc o).cell? ⟨wr.heap.size, 3, none⟩ = some (.int .i64 v) := fun o => pw_cell_below (below_alloc (Below.refl _ w3) o) ((cell_of_row _ _ 3 _ _ _ hG8).trans rfl)
        have hy0 : ∀ o : Obj, (w3.alloc o).cell? ad4 = some (.int .i64 k) := fun o => pw_cell_below (below_alloc (Below.refl _ w3) o) y0
        have hy1 : ∀ o : Obj, (w3.alloc o).cell? ⟨ad4.block, ad4.off + 1, none⟩ = some (.int .i64 0) := fun o => pw_cell_below (below_alloc (Below.refl _ w3) o) y1
        have hy2 : ∀ o : Obj, (w3.alloc o).cell? ⟨ad4.block, ad4.off + 2, none⟩ = some (.int .i64 m) := fun o => pw_cell_below (below_alloc (Below.refl _ w3) o) y2
        have hy3 : ∀ o : Obj, (w3.alloc o).cell? ⟨ad4.block, ad4.off + 3, none⟩ = some (.int .i64 v) := fun o => pw_cell_below (below_alloc (Below.refl _ w3) o) y3
        clear hR3 hb3 hG8 hc4 hC4 y0 y1 y2 y3
        go_wp2_with (fail)
        go_quiet (fail)
        go_wp2_with (fail)
        obtain ⟨W0, hW0⟩ : ∃ W0, W0 = (w3.alloc (.cells #[.int .i64 0, .int .i64 0] 34)).drewN nq := ⟨_, rfl⟩
        rw [← hW0]
        have HB0 : Aside0 (Below w.heap.size w W0) := ⟨by rw [hW0]; exact pw_below_drewN (below_alloc HB3.out _) _⟩
        have HO0 : Aside0 (Kd.R k40 40 W0 w.heap.size (fun _ => True) (.slice (some ad) ts.length c1) ts) := ⟨by rw [hW0]; exact Kd.R_drewN (Kd.R_alloc HO3.out _) _⟩
        have hw0 : W0.cell? ⟨wr.heap.size, 0, none⟩ = some (.int .i64 k) := by rw [hW0]; exact hz0 _
        have hw1 : W0.cell? ⟨wr.heap.size, 1, none⟩ = some (.int .i64 p) := by rw [hW0]; exact hz1 _
        have hw2 : W0.cell? ⟨wr.heap.size, 2, none⟩ = some (.int .i64 m) := by rw [hW0]; exact hz2 _
        have hw3 : W0.cell? ⟨wr.heap.size, 3, none⟩ = some (.int .i64 v) := by rw [hW0]; exact hz3 _
        have hkv := tokenOf_text (l.drop p) k y m v HTOK.out
        clear hW0 hz0 hz1 hz2 hz3 hy0 hy1 hy2 hy3 HB3 HO3 HO
        by_cases h10 : k < 10
        · have hlast : ((k != 2) && (v != 0)) = false := by
            by_cases h2 : k = 2
            · simp [h2]
            · simp [hkv.2 h2]
          by_cases h2 : k = 2
          · subst h2
            clear hkv hlast h10
            go_quiet (fail)
            go_wp2_with (fail)
            go_roundw
            case rel => exact ⟨n + 1, p + m, by go_num, by go_num, by omega, hm2, HREST, ⟨pw_below_drewN HB0.out _⟩, ⟨Kd.R_drewN HO0.out _⟩⟩
            case measure => simp [intOf]; omega
          · obtain rfl : v = 0 := hkv.2 h2
            have h2' : (k == 2) = false := beq_eq_false_iff_ne.2 h2
            have h2'' : (k != 2) = true := bne_iff_ne.2 h2
            have hd : decide (10 ≤ k) = false := decide_eq_false (by omega)
            clear hkv hlast h2
            go_quiet (fail)
            go_wp2_with (fail)
            go_roundw
            case rel => exact ⟨n + 1, p + m, by go_num, by go_num, by omega, hm2, HREST, ⟨pw_below_drewN HB0.out _⟩, ⟨Kd.R_drewN HO0.out _⟩⟩
            case measure => simp [intOf]; omega
        · have h10' : 10 ≤ k := by omega
          obtain ⟨hkt, hk0⟩ := hkv.1 h10'
          have hd : decide (10 ≤ k) = true := decide_eq_true h10'
          obtain rfl : v = 0 := hkv.2 (by omega)
          have h2' : (k == 2) = false := beq_eq_false_iff_ne.2 (by omega)
          have h2'' : (k != 2) = true := bne_iff_ne.2 (by omega)
          have htx := kindOf_text (strOfNums ((l.drop p).take m)) (by rw [← hkt]; exact hk0)
          rw [← hkt, ← HOWN.out] at htx
          have hte : textOf k = strOfNums ((l.take (p + m)).drop p) := Go.WideShapes.bytes_inj (by rw [← ByteArray.toList_eq, ← ByteArray.toList_eq]; exact htx)
          have HTE := Aside0.mk hte
          clear hte
          have hconv : ∀ W, Below w.heap.size w W → (convert 26 9 (.slice A3 m (c - p))).run Try.prog W = .ok (.string (strOfNums ((l.take (p + m)).drop p))) W := fun W hb => by
            have h := conv_take (c := c - p) (Kd.C_below HR3.out hb) ((l.take (p + m)).drop p).length (Nat.le_refl _)
            rw [List.take_length, HL3.out] at h
            exact h
          have HCONV := Aside0.mk hconv
          clear hkv hkt hk0 htx hconv h10
          have hcv : ∀ q, (convert 26 9 (.slice A3 m (c - p))).run Try.prog (W0.drewN q) = .ok (.string (strOfNums ((l.take (p + m)).drop p))) (W0.drewN q) := fun q => HCONV.out _ (pw_below_drewN HB0.out q)
          have hcvd := HCONV.out _ (below_drew HB0.out)
          go_region_with (go_at_call 9; refine (text_any _ _).mono ?_; rw [HTE.out]; rintro e w5 ⟨rfl, hb5⟩; have HB5 := Aside0.mk (below_then (below_drew HB0.out) HB0.out.size hb5); have hcv5 : ∀ q, (convert 26 9 (.slice A3 m (c - p))).run Try.prog (w5.drewN q) = .ok (.string (strOfNums ((l.take (p + m)).drop p))) (w5.drewN q) := fun q => HCONV.out _ (pw_below_drewN HB5.out q); have hcv6 := HCONV.out _ HB5.out; have hc50 : w5.cell? ⟨wr.heap.size, 0, none⟩ = some (.int .i64 k) := pw_cell_below hb5 hw0; have hc51 : w5.cell? ⟨wr.heap.size, 1, none⟩ = some (.int .i64 p) := pw_cell_below hb5 hw1; have hc52 : w5.cell? ⟨wr.heap.size, 2, none⟩ = some (.int .i64 m) := pw_cell_below hb5 hw2; have hc53 : w5.cell? ⟨wr.heap.size, 3, none⟩ = some (.int .i64 0) := pw_cell_below hb5 hw3; have HO5 := Aside0.mk (Kd.R_below (Kd.R_drew HO0.out) hb5); clear hb5)
          all_goals
            go_wp2_with (fail)
            go_roundw
            case rel => exact ⟨n + 1, p + m, by go_num, by go_num, by omega, hm2, HREST, ⟨by repeat (first | exact HB5.out | apply below_drew | apply pw_below_drewN)⟩, ⟨by repeat (first | exact HO5.out | apply Kd.R_drew | apply Kd.R_drewN)⟩⟩
            case measure => simp [intOf]; omega
    · have hT' := HTn.out
      rw [List.drop_of_length_le (by omega)] at hT'
      cases hT' with
      | done _ hg =>
        obtain ⟨A2, hcut2, hr2, hl2⟩ := drop_read HR.out hc b hbl
        have HR2 := Aside0.mk hr2
        have hpass := fun W (hb : Below w.heap.size w W) => passed_any A2 (c - b) (l.drop b) W (Kd.C_below HR2.out hb) hl2
        have h3 := hg.2.2.1
        rw [List.take_length] at h3
        rw [h3, List.length_drop] at hpass
        have HPASS := Aside0.mk hpass
        clear hpass hr2 hl2 hg h3
        go_wp2_with (go_at_call 17; refine (HPASS.out _ HBW.out).mono ?_; rintro e w' ⟨rfl, rfl⟩)
        go_ret
        exact ⟨rfl, HBW.out⟩
end Go.Proofs.Ytmingnhhmaclaaa.Given
