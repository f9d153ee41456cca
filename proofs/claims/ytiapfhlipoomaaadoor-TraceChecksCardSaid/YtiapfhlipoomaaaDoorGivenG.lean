/- trace.Print at any events. What it asks: the library's tables lie as they were laid; the numbers are Go's; the text is not longer than 2^40. -/
import Derived.Test.YtiapfhlipoomaaaDoorPlainA
import Derived.Deep.RegionHeld3
namespace Go.Proofs.YtiapfhlipoomaaaDoor.Given
open Go.RowKit Go.Proofs.YtiapfhlipoomaaaDoorW.PrintWords Go.Proofs.YtiapfhlipoomaaaDoorW.PrintLast Go.Proofs.YtiapfhlipoomaaaDoorW.PrintMore Go.Proofs.YtiapfhlipoomaaaDoor.Print
set_option linter.unusedVariables false
set_option linter.unusedSimpArgs false

theorem take_next {α β : Type} (f : α → β) (l : List α) (k : Nat) (x : α) (h : l[k]? = some x) : (l.take (k + 1)).map f = (l.take k).map f ++ [f x] := by
  rw [List.take_add_one, h]
  simp
theorem ret_print {a b : ByteArray × Int} (h : a = b) : Ending.returned (.tuple #[.string a.1, .int .i64 a.2]) = .returned (.tuple #[.string b.1, .int .i64 b.2]) := by rw [h]
theorem print_bad (l : List S24) (k : Nat) (x : S24) (hx : l[k]? = some x) (h : okX x = false) : printOf l = (⟨#[]⟩, 180) := by
  unfold printOf
  rw [if_neg]
  intro ha
  have := List.all_eq_true.1 ha x (List.mem_of_getElem? hx)
  rw [h] at this
  cases this
theorem ws_in (k : Nat) (x : S24) (hc : clsK k = 2) (hok : okX x = true) (hk : x.f0 = k) : 0 ≤ x.f6 ∧ x.f6 < (wsK k).length := by
  unfold okX at hok
  rw [Bool.and_eq_true] at hok
  have h := hok.2
  rw [hk, Int.toNat_natCast] at h
  match k, hc, h with
  | 6, _, h => simp [okK, wsK] at h ⊢; omega
  | 11, _, h => simp [okK, wsK] at h ⊢; omega
theorem num_at {w : World} {A : Option Addr} {n : Nat} {ns : List Int} (h : Kd.C (Kd.int .i64) w A n ns) (j : Nat) (x : Int) (hx : ns[j]? = some x) : ∃ ad, A = some ad ∧ w.cell? (ad.add j) = some (.int .i64 x) := by
  have hl := (List.getElem?_eq_some_iff.1 hx).1
  obtain ⟨ad, e, hc⟩ := Kd.at_int h (j : Int) (by omega) (by have := Kd.C_len h; omega)
  rw [Int.toNat_natCast] at hc
  refine ⟨ad, e, ?_⟩
  rw [hc]
  simp [rd, hx]
theorem ok_kind (x : S24) (h : okX x = true) : ∃ k : Nat, 1 ≤ k ∧ k ≤ 11 ∧ x.f0 = k := by
  unfold okX at h
  rw [Bool.and_eq_true, decide_eq_true_eq] at h
  exact ⟨x.f0.toNat, by omega, by omega, by omega⟩
theorem cls_of (k : Nat) : clsK k = 0 ∨ clsK k = 1 ∨ clsK k = 2 := by
  unfold clsK
  split <;> simp
theorem ev_at {w : World} {A : Option Addr} {l : List S24} (h : Kd.C k24 w A l.length l) (j : Nat) (x : S24) (hx : l[j]? = some x) :
    ∃ ad A7 c7, A = some ad ∧ x.f7.length ≤ c7 ∧ Kd.C (Kd.int .i64) w A7 x.f7.length x.f7 ∧ ∀ i v, (evC x (.slice A7 x.f7.length c7))[i]? = some v → w.cell? (ad.add (j * 8 + i)) = some v := by
  have hl := (List.getElem?_eq_some_iff.1 hx).1
  obtain ⟨ad, c, e, _, hK, hc⟩ := Kd.C_get h z24 (j : Int) (by omega) (by omega)
  rw [Int.toNat_natCast] at hK hc
  have hg : l.getD j z24 = x := by simp [hx]
  rw [hg] at hK
  obtain ⟨A7, c7, rfl, l7, g7⟩ := k24_open hK
  exact ⟨ad, A7, c7, e, l7, g7, fun i v hv => hc i v (by rw [← hv]; simp [evC])⟩
set_option maxRecDepth 100000 in
set_option maxHeartbeats 16000000 in
theorem print_any (A : Option Addr) (cp : Nat) (l : List S24) (w : World) (hr : Kd.C k24 w A l.length l) (hL : LW w) (hrng : ∀ x ∈ l, rngX x) (hsz : (textOf l).size ≤ 1099511627776) :
    Calls Tryd.prog 14 #[.slice A l.length cp] w fun e w' => e = .returned (.tuple #[.string (printOf l).1, .int .i64 (printOf l).2]) ∧ Below w.heap.size w w' := by
  have hu24 := Tryd.underlying24
  have hu48 := Tryd.underlying48
  have hu61 := Tryd.underlying61
  have hm := hr.2.1
  have HR := Aside0.mk hr
  have HL := Aside0.mk hL
  have HRG0 := Aside0.mk hrng
  have HS := Aside0.mk hsz
  clear hr hL hrng hsz
  go_enter Tryd.func14, Tryd.ntmps14
  go_wp2
  go_loopw [17] (fun i wr => ∃ j : Nat, i = .int .i64 j ∧ j ≤ l.length ∧ Aside0 (Lib.IsBuilder 61 5 w.heap.size w.heap.size (Lib.strCells (textOf (l.take j))) wr) ∧ Aside0 (Below w.heap.size w wr) ∧ Aside0 (∀ x ∈ l.take j, okX x = true)) (fun i _ => l.length - (intOf i).toNat)
  case atStart => exact ⟨0, rfl, by omega, ⟨show Lib.IsBuilder 61 5 _ _ [] _ from Lib.fresh_isBuilder 61 5 w⟩, ⟨bel1 w _⟩, ⟨fun x h => by simp at h⟩⟩
  case round =>
    obtain ⟨j, rfl, hj, HBL, HB, HAL⟩ := hrel
    obtain ⟨wo, rfl⟩ : ∃ wo : World, wo = wr := ⟨_, rfl⟩
    by_cases hlt : j < l.length
    · obtain ⟨x, hx⟩ : ∃ x, l[j]? = some x := ⟨_, List.getElem?_eq_getElem hlt⟩
      obtain ⟨ad, A7, c7, rfl, h7, hC7, hrow⟩ := ev_at HR.out j x hx
      have HC7 := Aside0.mk hC7
      have H7 := Aside0.mk h7
      have HRX := Aside0.mk (HRG0.out x (List.mem_of_getElem? hx))
      have q0 : wo.cell? (ad.add (j * 8)) = some (.int .i64 x.f0) := pw_cell_below HB.out (hrow 0 _ rfl)
      have q1 : wo.cell? ⟨(ad.add (j * 8)).block, (ad.add (j * 8)).off + 1, none⟩ = some (.int .i64 x.f1) := by rw [← add_field _ _ 1 (by omega)]; exact pw_cell_below HB.out (hrow 1 _ rfl)
      have q2 : wo.cell? ⟨(ad.add (j * 8)).block, (ad.add (j * 8)).off + 2, none⟩ = some (.int .i64 x.f2) := by rw [← add_field _ _ 2 (by omega)]; exact pw_cell_below HB.out (hrow 2 _ rfl)
      have q3 : wo.cell? ⟨(ad.add (j * 8)).block, (ad.add (j * 8)).off + 3, none⟩ = some (.int .i64 x.f3) := by rw [← add_field _ _ 3 (by omega)]; exact pw_cell_below HB.out (hrow 3 _ rfl)
      have q4 : wo.cell? ⟨(ad.add (j * 8)).block, (ad.add (j * 8)).off + 4, none⟩ = some (.int .i64 x.f4) := by rw [← add_field _ _ 4 (by omega)]; exact pw_cell_below HB.out (hrow 4 _ rfl)
      have q5 : wo.cell? ⟨(ad.add (j * 8)).block, (ad.add (j * 8)).off + 5, none⟩ = some (.int .i64 x.f5) := by rw [← add_field _ _ 5 (by omega)]; exact pw_cell_below HB.out (hrow 5 _ rfl)
      have q6 : wo.cell? ⟨(ad.add (j * 8)).block, (ad.add (j * 8)).off + 6, none⟩ = some (.int .i64 x.f6) := by rw [← add_field _ _ 6 (by omega)]; exact pw_cell_below HB.out (hrow 6 _ rfl)
      have q7 : wo.cell? ⟨(ad.add (j * 8)).block, (ad.add (j * 8)).off + 7, none⟩ = some (.slice A7 x.f7.length c7) := by rw [← add_field _ _ 7 (by omega)]; exact pw_cell_below HB.out (hrow 7 _ rfl)
      clear hrow h7 hC7
      cases hok : okX x with
      | false =>
        have HCK : Aside0 (checkOf x = 180) := ⟨by rw [checkOf_ok, hok]; rfl⟩
        have HPR := Aside0.mk (print_bad l j x hx hok)
        clear hok hx
        go_wp2_with (go_at_call 10; refine (chk_any x A7 c7 _ (Kd.C_below HC7.out (HB.out.trans ((below_alloc (Below.refl _ wo) _).mono HB.out.size))) H7.out).mono ?_; rw [HCK.out]; rintro e w1 ⟨rfl, hb⟩; have HE := Aside0.mk (HB.out.trans (((below_alloc (Below.refl _ wo) (.cells (evC x (.slice A7 x.f7.length c7)) 24)).trans (hb.mono (by rw [size_alloc]; exact Nat.le_succ _))).mono HB.out.size)); clear hb)
        go_ret2
        exact ⟨ret_print (a := (⟨#[]⟩, 180)) HPR.out.symm, HE.out⟩
      | true =>
        have HCK : Aside0 (checkOf x = 0) := ⟨by rw [checkOf_ok, hok]; rfl⟩
        have HTX : Aside0 (textOf (l.take (j + 1)) = textOf (l.take j) ++ lineB (wordsX x)) := ⟨by rw [List.take_add_one, hx]; exact textOf_snoc _ _⟩
        have HSZ : Aside0 ((textOf (l.take j)).size + (lineB (wordsX x)).size ≤ 140737488355328) := ⟨by
          have h1 := textOf_size (l.take (j + 1)) (l.drop (j + 1))
          rw [List.take_append_drop, HTX.out, size_append] at h1
          have := HS.out
          omega⟩
        have HWL0 : Aside0 ((wordsX x).length ≤ 1099511627776) := ⟨by
          have h1 := textOf_size (l.take (j + 1)) (l.drop (j + 1))
          rw [List.take_append_drop, HTX.out, size_append] at h1
          have := HS.out
          have := words_len (wordsX x)
          omega⟩
        have HALL : Aside0 (∀ y ∈ l.take (j + 1), okX y = true) := ⟨fun y hy => by
          rw [List.take_add_one, hx] at hy
          simp only [Option.toList_some, List.mem_append, List.mem_singleton] at hy
          rcases hy with hy | rfl
          · exact HAL.out y hy
          · exact hok⟩
        have HOK := Aside0.mk hok
        obtain ⟨k, hk1, hk2, hkk⟩ := ok_kind x hok
        have HK1 := Aside0.mk hk1
        have HK2 := Aside0.mk hk2
        have HKK := Aside0.mk hkk
        have HKN : Aside0 (x.f0.toNat = k) := ⟨by rw [hkk]; exact Int.toNat_natCast k⟩
        have HWL : Aside0 ((wordsK k x).length ≤ 1099511627776) := ⟨by have := HWL0.out; unfold wordsX at this; rwa [HKN.out] at this⟩
        clear hx hok hk1 hk2 hkk HWL0
        rcases cls_of k with hcl | hcl | hcl
        · have HCL := Aside0.mk hcl
          clear hcl
          go_upto_region 9 with (first | (go_at_call 10; refine (chk_any x A7 c7 _ (Kd.C_below HC7.out (HB.out.trans ((below_alloc (Below.refl _ wo) _).mono HB.out.size))) H7.out).mono ?_; rw [HCK.out]; rintro e w1 ⟨rfl, hb⟩; have BE := Aside0.mk (blk_below (heap_alloc_new wo (.cells (evC x (.slice A7 x.f7.length c7)) 24)) hb); have HE := Aside0.mk ((below_alloc (Below.refl _ wo) (.cells (evC x (.slice A7 x.f7.length c7)) 24)).trans (hb.mono (by rw [size_alloc]; exact Nat.le_succ _))); clear hb) | (go_at_call 23; refine (form_c0 k HK1.out HK2.out HCL.out wo.heap.size x (.slice A7 x.f7.length c7) _ HKK.out BE.out).mono ?_; rintro e w2 ⟨_, rfl, ⟨AF, rfl, hF⟩, hb⟩; have FF := Aside0.mk hF; have n1_ := Aside0.mk (blk_below BE.out hb); have n2_ := Aside0.mk (HE.out.trans (hb.mono HE.out.size)); clear BE HE; have BE := n1_; have HE := n2_; clear n1_ n2_ hF hb))
          have BF := Aside0.mk (heap_alloc_new w2 (.cells #[.string (wordB k), .slice AF (foK k).length (foK k).length, .pointer none, .slice none 0 0, .pointer none, .bool (liK k)] 48))
          have n1_ := Aside0.mk (blk_below BE.out (bel1 w2 (.cells #[.string (wordB k), .slice AF (foK k).length (foK k).length, .pointer none, .slice none 0 0, .pointer none, .bool (liK k)] 48)))
          have HZ0 := Aside0.mk (HE.out.trans ((bel1 w2 (.cells #[.string (wordB k), .slice AF (foK k).length (foK k).length, .pointer none, .slice none 0 0, .pointer none, .bool (liK k)] 48)).mono HE.out.size))
          have n2_ : Aside0 (∀ (j o : Nat), (foK k)[j]? = some o → ∃ ad, AF = some ad ∧ (w2.alloc (.cells #[.string (wordB k), .slice AF (foK k).length (foK k).length, .pointer none, .slice none 0 0, .pointer none, .bool (liK k)] 48)).cell? (ad.add j) = some (.pointer (some ⟨wo.heap.size, o, none⟩))) := ⟨fun j o hj => by obtain ⟨ad, h1, _, h2⟩ := FF.out j o hj; exact ⟨ad, h1, pw_cell_below (bel1 w2 _) h2⟩⟩
          clear FF BE
          generalize w2.heap.size = g8 at BF ⊢
          generalize w2.alloc (.cells #[.string (wordB k), .slice AF (foK k).length (foK k).length, .pointer none, .slice none 0 0, .pointer none, .bool (liK k)] 48) = wz at *
          have HZ := Aside0.mk (HB.out.trans (HZ0.out.mono HB.out.size))
          have BE := n1_
          have FF := n2_
          clear n1_ n2_ HE
          have y0 : wz.cell? ⟨g8, 0, none⟩ = some (.string (wordB k)) := (blk_cell BF.out 0).trans rfl
          go_wp2_with (first | ((with_reducible refine gate_dst (N := 32) rfl ?_); refine Kd.R_lit Kd.string (w0 := wz) wz.heap.size 9 ?hg (N := 32) ?hd (xs := [wordB k]) (inner := [.string (wordB k)]) (ok := fun _ => True) (okp := fun _ => True) ?hr ?hp (fun _ hk => hk) trivial ?hb ?hs (by simp) ?_; (case hd => rfl); (case hg => rfl); (case hr => first | (go_simp; done) | (go_simp; rfl)); (case hp => exact (Reps.one (show Kd.M Kd.string _ _ _ (wordB k) [.string (wordB k)] from rfl) (Reps.none _ _))); (case hb => exact Below.refl _ _); (case hs => exact Nat.le_refl _); intro v0 w3 ho hb hg_ hat_; clear hg_ hat_; have HO := Aside0.mk ho; have HB1 := Aside0.mk hb; clear ho hb; have y1 : w3.cell? ⟨g8, 1, none⟩ = some (.slice AF (foK k).length (foK k).length) := cell_keep BF.out HB1.out rfl))
          clear y0 y1
          go_loopw [10, 36] (fun v10 i wr => ∃ a : Nat, i = .int .i64 a ∧ a ≤ (foK k).length ∧ Aside0 (Kd.R Kd.string 9 wr wz.heap.size (fun _ => True) v10 (wordB k :: ((foK k).take a).map (fun o => itoaB (getK x o)))) ∧ Aside0 (Below wz.heap.size wz wr)) (fun _ i _ => (foK k).length - (intOf i).toNat)
          case atStart => exact ⟨0, rfl, by omega, HO, HB1⟩
          case round =>
            clear HO HB1
            obtain ⟨a, rfl, ha, HO, HB1⟩ := hrel
            have hfl := fo_len k
            by_cases hlt : a < (foK k).length
            · obtain ⟨o, ho⟩ : ∃ o, (foK k)[a]? = some o := ⟨_, List.getElem?_eq_getElem hlt⟩
              obtain ⟨ad1, rfl, hc1⟩ := FF.out a o ho
              have ho6 := fo_le k o (List.mem_of_getElem? ho)
              have x1 : wr.cell? (ad1.add a) = some (.pointer (some ⟨wo.heap.size, o, none⟩)) := pw_cell_below HB1.out hc1
              obtain ⟨n, hn⟩ : ∃ n, n = getK x o := ⟨_, rfl⟩
              have x2 : wr.cell? ⟨wo.heap.size, o, none⟩ = some (.int .i64 n) := cell_keep BE.out HB1.out (by rw [hn]; exact ev_get x _ o ho6.1 ho6.2)
              have HRG := Aside0.mk (hn ▸ HRX.out.1 o ho6.2)
              have HT2 : Aside0 (wordB k :: ((foK k).take (a + 1)).map (fun o => itoaB (getK x o)) = (wordB k :: ((foK k).take a).map (fun o => itoaB (getK x o))) ++ [itoaB n]) := ⟨by rw [take_next _ _ a o ho, hn]; rfl⟩
              have HTL : Aside0 (((wordB k :: ((foK k).take a).map (fun o => itoaB (getK x o))).length + 1) * 16 ≤ 140737488355328) := ⟨by rw [List.length_cons, List.length_map, List.length_take]; omega⟩
              clear hc1 ho ho6 hn
              go_wp2_with (first
                | (go_at_call 32; refine (itoa_any (n) HRG.out _ (HL.out.below (HZ.out.trans (HB1.out.mono HZ.out.size)))).mono ?_; rintro e w3 ⟨rfl, hb⟩; have n1_ := Aside0.mk (Kd.R_below HO.out hb); have n3_ := Aside0.mk (below_then HB1.out HB1.out.size hb); clear HO HB1 hb; have HO := n1_; have HB1 := n3_; clear n1_ n3_)
                | ((with_reducible refine gate_builtin (b := .append) (xs := #[.tmp 40, .tmp 45]) rfl ?_); at_builtin; refine Kd.R_append Kd.string (w0 := wz) wz.heap.size rfl (.tmp 40) (.tmp 45) 46 9 (.string ⟨#[]⟩) 16 rfl Tryd.underlying46 info9 rfl (by decide) (by omega) u10 (wordB k :: ((foK k).take a).map (fun o => itoaB (getK x o))) (itoaB n) [.string (itoaB n)] (fun _ => True) (fun _ => False) rfl rfl ?aP (fun _ hk => hk.elim) ?aF ?aO ?aB ?aS ?aL ?_; (case aP => exact rfl); (case aB => exact HB1.out); (case aF => exact (fun _ _ => trivial)); (case aO => exact HO.out); (case aS => exact HB1.out.size); (case aL => exact HTL.out); intro v7 w7 ho hb hg_ hat_; clear hg_ hat_; have n1_ : Aside0 (Kd.R Kd.string 9 w7 wz.heap.size (fun _ => True) v7 (wordB k :: ((foK k).take a).map (fun o => itoaB (getK x o)) ++ [itoaB n])) := ⟨ho⟩; have n3_ := Aside0.mk hb; clear HO HB1 ho hb; have HO := n1_; have HB1 := n3_; clear n1_ n3_))
              go_roundw
              case rel => exact ⟨a + 1, by go_num, by omega, by rw [HT2.out]; exact HO, HB1⟩
              case measure => simp [intOf]; omega
            · obtain rfl : a = (foK k).length := by omega
              rw [List.take_length] at HO
              clear hlt ha
              have HO0 : Aside0 (Kd.R Kd.string 9 wr wz.heap.size (fun _ => True) u10 (wordsF k x)) := HO
              clear HO
              have HO := HO0
              clear HO0
              have z2 : wr.cell? ⟨g8, 2, none⟩ = some (.pointer none) := cell_keep BF.out HB1.out rfl
              have z3 : wr.cell? ⟨g8, 3, none⟩ = some (.slice none 0 0) := cell_keep BF.out HB1.out rfl
              have hu46 := Tryd.underlying46
              have e7 : wr.cell? ⟨wo.heap.size, 7, none⟩ = some (.slice A7 x.f7.length c7) := cell_keep BE.out HB1.out rfl
              have HM : Aside0 (wordsM k x = []) := ⟨by unfold wordsM; rw [HCL.out]; rfl⟩
              have HO0 : Aside0 (Kd.R Kd.string 9 wr wz.heap.size (fun _ => True) u10 (wordsF k x ++ wordsM k x)) := ⟨by rw [HM.out, List.append_nil]; exact HO.out⟩
              clear HO
              have HO := HO0
              clear HO0
              go_wp2_with (fail)
              go_loopw [10, 78] (fun v10 i wr => ∃ a : Nat, i = .int .i64 a ∧ a ≤ x.f7.length ∧ Aside0 (Kd.R Kd.string 9 wr wz.heap.size (fun _ => True) v10 (wordsF k x ++ wordsM k x ++ (x.f7.take a).map itoaB)) ∧ Aside0 (Below wz.heap.size wz wr)) (fun _ i _ => x.f7.length - (intOf i).toNat)
              case atStart => exact ⟨0, rfl, by omega, ⟨by simpa using HO.out⟩, HB1⟩
              case round =>
                clear HO HB1
                obtain ⟨a, rfl, ha, HO, HB1⟩ := hrel
                have h7m := HC7.out.2.1
                by_cases hlt : a < x.f7.length
                · obtain ⟨n, hn⟩ : ∃ n, x.f7[a]? = some n := ⟨_, List.getElem?_eq_getElem hlt⟩
                  obtain ⟨ad7, rfl, hc1⟩ := num_at (Kd.C_below HC7.out HZ.out) a n hn
                  have x1 : wr.cell? (ad7.add a) = some (.int .i64 n) := pw_cell_below HB1.out hc1
                  have HRG := Aside0.mk (HRX.out.2 n (List.mem_of_getElem? hn))
                  have HT2 : Aside0 (wordsF k x ++ wordsM k x ++ (x.f7.take (a + 1)).map itoaB = (wordsF k x ++ wordsM k x ++ (x.f7.take a).map itoaB) ++ [itoaB n]) := ⟨by rw [take_next _ _ a n hn, List.append_assoc (wordsF k x ++ wordsM k x)]⟩
                  have HTL : Aside0 (((wordsF k x ++ wordsM k x ++ (x.f7.take a).map itoaB).length + 1) * 16 ≤ 140737488355328) := ⟨by have h1 := HWL.out; rw [wordsK, List.length_append, List.length_map] at h1; rw [List.length_append, List.length_map, List.length_take]; omega⟩
                  clear hc1 hn
                  go_wp2_with (first
                    | (go_at_call 32; refine (itoa_any (n) HRG.out _ (HL.out.below (HZ.out.trans (HB1.out.mono HZ.out.size)))).mono ?_; rintro e w3 ⟨rfl, hb⟩; have n1_ := Aside0.mk (Kd.R_below HO.out hb); have n3_ := Aside0.mk (below_then HB1.out HB1.out.size hb); clear HO HB1 hb; have HO := n1_; have HB1 := n3_; clear n1_ n3_)
                    | ((with_reducible refine gate_builtin (b := .append) (xs := #[.tmp 82, .tmp 85]) rfl ?_); at_builtin; refine Kd.R_append Kd.string (w0 := wz) wz.heap.size rfl (.tmp 82) (.tmp 85) 46 9 (.string ⟨#[]⟩) 16 rfl Tryd.underlying46 info9 rfl (by decide) (by omega) u10 (wordsF k x ++ wordsM k x ++ (x.f7.take a).map itoaB) (itoaB n) [.string (itoaB n)] (fun _ => True) (fun _ => False) rfl rfl ?aP (fun _ hk => hk.elim) ?aF ?aO ?aB ?aS ?aL ?_; (case aP => exact rfl); (case aB => exact HB1.out); (case aF => exact (fun _ _ => trivial)); (case aO => exact HO.out); (case aS => exact HB1.out.size); (case aL => exact HTL.out); intro v7 w7 ho hb hg_ hat_; clear hg_ hat_; have n1_ : Aside0 (Kd.R Kd.string 9 w7 wz.heap.size (fun _ => True) v7 (wordsF k x ++ wordsM k x ++ (x.f7.take a).map itoaB ++ [itoaB n])) := ⟨ho⟩; have n3_ := Aside0.mk hb; clear HO HB1 ho hb; have HO := n1_; have HB1 := n3_; clear n1_ n3_))
                  go_roundw
                  case rel => exact ⟨a + 1, by go_num, by omega, by rw [HT2.out]; exact HO, HB1⟩
                  case measure => simp [intOf]; omega
                · obtain rfl : a = x.f7.length := by omega
                  rw [List.take_length] at HO
                  clear hlt ha
                  have HOW : Aside0 (Kd.R Kd.string 9 wr wz.heap.size (fun _ => True) u10 (wordsX x)) := ⟨by unfold wordsX; rw [HKN.out]; exact HO.out⟩
                  have HBL2 : Aside0 (Lib.IsBuilder 61 5 w.heap.size w.heap.size (Lib.strCells (textOf (l.take j))) wr) := ⟨builder_below HBL.out (HZ0.out.trans (HB1.out.mono HZ0.out.size))⟩
                  go_wp2_with (go_at_call 33; refine (put_any w.heap.size (textOf (l.take j)) (wordsX x) _ HBL2.out HOW.out (by unfold wordsX wordsK wordsF; simp) HSZ.out (HZ.out.trans (HB1.out.mono HZ.out.size)).size).mono ?_; rintro e w9 ⟨rfl, h9, hb⟩; have BL9 := Aside0.mk h9; have HB9 := Aside0.mk ((HZ.out.trans (HB1.out.mono HZ.out.size)).trans hb); clear h9 hb)
                  go_roundw
                  case rel => exact ⟨j + 1, by go_num, by omega, ⟨by rw [HTX.out]; exact BL9.out⟩, HB9, HALL⟩
                  case measure => simp [intOf]; omega
        · have HCL := Aside0.mk hcl
          clear hcl
          go_upto_region 9 with (first | (go_at_call 10; refine (chk_any x A7 c7 _ (Kd.C_below HC7.out (HB.out.trans ((below_alloc (Below.refl _ wo) _).mono HB.out.size))) H7.out).mono ?_; rw [HCK.out]; rintro e w1 ⟨rfl, hb⟩; have BE := Aside0.mk (blk_below (heap_alloc_new wo (.cells (evC x (.slice A7 x.f7.length c7)) 24)) hb); have HE := Aside0.mk ((below_alloc (Below.refl _ wo) (.cells (evC x (.slice A7 x.f7.length c7)) 24)).trans (hb.mono (by rw [size_alloc]; exact Nat.le_succ _))); clear hb) | (go_at_call 23; refine (form_c1 k HK1.out HK2.out HCL.out wo.heap.size x (.slice A7 x.f7.length c7) _ HKK.out BE.out).mono ?_; rintro e w2 ⟨_, rfl, ⟨AF, rfl, hF⟩, hb⟩; have FF := Aside0.mk hF; have n1_ := Aside0.mk (blk_below BE.out hb); have n2_ := Aside0.mk (HE.out.trans (hb.mono HE.out.size)); clear BE HE; have BE := n1_; have HE := n2_; clear n1_ n2_ hF hb))
          have BF := Aside0.mk (heap_alloc_new w2 (.cells #[.string (wordB k), .slice AF (foK k).length (foK k).length, .pointer (some ⟨wo.heap.size, 6, none⟩), .slice none 0 0, .pointer none, .bool false] 48))
          have n1_ := Aside0.mk (blk_below BE.out (bel1 w2 (.cells #[.string (wordB k), .slice AF (foK k).length (foK k).length, .pointer (some ⟨wo.heap.size, 6, none⟩), .slice none 0 0, .pointer none, .bool false] 48)))
          have HZ0 := Aside0.mk (HE.out.trans ((bel1 w2 (.cells #[.string (wordB k), .slice AF (foK k).length (foK k).length, .pointer (some ⟨wo.heap.size, 6, none⟩), .slice none 0 0, .pointer none, .bool false] 48)).mono HE.out.size))
          have n2_ : Aside0 (∀ (j o : Nat), (foK k)[j]? = some o → ∃ ad, AF = some ad ∧ (w2.alloc (.cells #[.string (wordB k), .slice AF (foK k).length (foK k).length, .pointer (some ⟨wo.heap.size, 6, none⟩), .slice none 0 0, .pointer none, .bool false] 48)).cell? (ad.add j) = some (.pointer (some ⟨wo.heap.size, o, none⟩))) := ⟨fun j o hj => by obtain ⟨ad, h1, _, h2⟩ := FF.out j o hj; exact ⟨ad, h1, pw_cell_below (bel1 w2 _) h2⟩⟩
          clear FF BE
          generalize w2.heap.size = g8 at BF ⊢
          generalize w2.alloc (.cells #[.string (wordB k), .slice AF (foK k).length (foK k).length, .pointer (some ⟨wo.heap.size, 6, none⟩), .slice none 0 0, .pointer none, .bool false] 48) = wz at *
          have HZ := Aside0.mk (HB.out.trans (HZ0.out.mono HB.out.size))
          have BE := n1_
          have FF := n2_
          clear n1_ n2_ HE
          have y0 : wz.cell? ⟨g8, 0, none⟩ = some (.string (wordB k)) := (blk_cell BF.out 0).trans rfl
          go_wp2_with (first | ((with_reducible refine gate_dst (N := 32) rfl ?_); refine Kd.R_lit Kd.string (w0 := wz) wz.heap.size 9 ?hg (N := 32) ?hd (xs := [wordB k]) (inner := [.string (wordB k)]) (ok := fun _ => True) (okp := fun _ => True) ?hr ?hp (fun _ hk => hk) trivial ?hb ?hs (by simp) ?_; (case hd => rfl); (case hg => rfl); (case hr => first | (go_simp; done) | (go_simp; rfl)); (case hp => exact (Reps.one (show Kd.M Kd.string _ _ _ (wordB k) [.string (wordB k)] from rfl) (Reps.none _ _))); (case hb => exact Below.refl _ _); (case hs => exact Nat.le_refl _); intro v0 w3 ho hb hg_ hat_; clear hg_ hat_; have HO := Aside0.mk ho; have HB1 := Aside0.mk hb; clear ho hb; have y1 : w3.cell? ⟨g8, 1, none⟩ = some (.slice AF (foK k).length (foK k).length) := cell_keep BF.out HB1.out rfl))
          clear y0 y1
          go_loopw [10, 36] (fun v10 i wr => ∃ a : Nat, i = .int .i64 a ∧ a ≤ (foK k).length ∧ Aside0 (Kd.R Kd.string 9 wr wz.heap.size (fun _ => True) v10 (wordB k :: ((foK k).take a).map (fun o => itoaB (getK x o)))) ∧ Aside0 (Below wz.heap.size wz wr)) (fun _ i _ => (foK k).length - (intOf i).toNat)
          case atStart => exact ⟨0, rfl, by omega, HO, HB1⟩
          case round =>
            clear HO HB1
            obtain ⟨a, rfl, ha, HO, HB1⟩ := hrel
            have hfl := fo_len k
            by_cases hlt : a < (foK k).length
            · obtain ⟨o, ho⟩ : ∃ o, (foK k)[a]? = some o := ⟨_, List.getElem?_eq_getElem hlt⟩
              obtain ⟨ad1, rfl, hc1⟩ := FF.out a o ho
              have ho6 := fo_le k o (List.mem_of_getElem? ho)
              have x1 : wr.cell? (ad1.add a) = some (.pointer (some ⟨wo.heap.size, o, none⟩)) := pw_cell_below HB1.out hc1
              obtain ⟨n, hn⟩ : ∃ n, n = getK x o := ⟨_, rfl⟩
              have x2 : wr.cell? ⟨wo.heap.size, o, none⟩ = some (.int .i64 n) := cell_keep BE.out HB1.out (by rw [hn]; exact ev_get x _ o ho6.1 ho6.2)
              have HRG := Aside0.mk (hn ▸ HRX.out.1 o ho6.2)
              have HT2 : Aside0 (wordB k :: ((foK k).take (a + 1)).map (fun o => itoaB (getK x o)) = (wordB k :: ((foK k).take a).map (fun o => itoaB (getK x o))) ++ [itoaB n]) := ⟨by rw [take_next _ _ a o ho, hn]; rfl⟩
              have HTL : Aside0 (((wordB k :: ((foK k).take a).map (fun o => itoaB (getK x o))).length + 1) * 16 ≤ 140737488355328) := ⟨by rw [List.length_cons, List.length_map, List.length_take]; omega⟩
              clear hc1 ho ho6 hn
              go_wp2_with (first
                | (go_at_call 32; refine (itoa_any (n) HRG.out _ (HL.out.below (HZ.out.trans (HB1.out.mono HZ.out.size)))).mono ?_; rintro e w3 ⟨rfl, hb⟩; have n1_ := Aside0.mk (Kd.R_below HO.out hb); have n3_ := Aside0.mk (below_then HB1.out HB1.out.size hb); clear HO HB1 hb; have HO := n1_; have HB1 := n3_; clear n1_ n3_)
                | ((with_reducible refine gate_builtin (b := .append) (xs := #[.tmp 40, .tmp 45]) rfl ?_); at_builtin; refine Kd.R_append Kd.string (w0 := wz) wz.heap.size rfl (.tmp 40) (.tmp 45) 46 9 (.string ⟨#[]⟩) 16 rfl Tryd.underlying46 info9 rfl (by decide) (by omega) u10 (wordB k :: ((foK k).take a).map (fun o => itoaB (getK x o))) (itoaB n) [.string (itoaB n)] (fun _ => True) (fun _ => False) rfl rfl ?aP (fun _ hk => hk.elim) ?aF ?aO ?aB ?aS ?aL ?_; (case aP => exact rfl); (case aB => exact HB1.out); (case aF => exact (fun _ _ => trivial)); (case aO => exact HO.out); (case aS => exact HB1.out.size); (case aL => exact HTL.out); intro v7 w7 ho hb hg_ hat_; clear hg_ hat_; have n1_ : Aside0 (Kd.R Kd.string 9 w7 wz.heap.size (fun _ => True) v7 (wordB k :: ((foK k).take a).map (fun o => itoaB (getK x o)) ++ [itoaB n])) := ⟨ho⟩; have n3_ := Aside0.mk hb; clear HO HB1 ho hb; have HO := n1_; have HB1 := n3_; clear n1_ n3_))
              go_roundw
              case rel => exact ⟨a + 1, by go_num, by omega, by rw [HT2.out]; exact HO, HB1⟩
              case measure => simp [intOf]; omega
            · obtain rfl : a = (foK k).length := by omega
              rw [List.take_length] at HO
              clear hlt ha
              have HO0 : Aside0 (Kd.R Kd.string 9 wr wz.heap.size (fun _ => True) u10 (wordsF k x)) := HO
              clear HO
              have HO := HO0
              clear HO0
              have z2 : wr.cell? ⟨g8, 2, none⟩ = some (.pointer (some ⟨wo.heap.size, 6, none⟩)) := cell_keep BF.out HB1.out rfl
              have z3 : wr.cell? ⟨g8, 3, none⟩ = some (.slice none 0 0) := cell_keep BF.out HB1.out rfl
              have hu46 := Tryd.underlying46
              have e7 : wr.cell? ⟨wo.heap.size, 7, none⟩ = some (.slice A7 x.f7.length c7) := cell_keep BE.out HB1.out rfl
              have HM : Aside0 (wordsM k x = [itoaB x.f6]) := ⟨by unfold wordsM; rw [HCL.out]; rfl⟩
              have HTL : Aside0 (((wordsF k x).length + 1) * 16 ≤ 140737488355328) := ⟨by unfold wordsF; rw [List.length_cons, List.length_map]; omega⟩
              have x6 : wr.cell? ⟨wo.heap.size, 6, none⟩ = some (.int .i64 x.f6) := cell_keep BE.out HB1.out rfl
              obtain ⟨n6, hn6⟩ : ∃ n, n = x.f6 := ⟨_, rfl⟩
              rw [← hn6] at x6
              have HN6 := Aside0.mk hn6
              have HRG : Aside0 (-9223372036854775808 ≤ n6 ∧ n6 ≤ 9223372036854775807) := ⟨hn6 ▸ HRX.out.1 6 (by omega)⟩
              clear hn6
              go_wp2_with (first
                | (go_at_call 32; refine (itoa_any (n6) HRG.out _ (HL.out.below (HZ.out.trans (HB1.out.mono HZ.out.size)))).mono ?_; rintro e w3 ⟨rfl, hb⟩; have n1_ := Aside0.mk (Kd.R_below HO.out hb); have n3_ := Aside0.mk (below_then HB1.out HB1.out.size hb); clear HO HB1 hb; have HO := n1_; have HB1 := n3_; clear n1_ n3_)
                | ((with_reducible refine gate_builtin (b := .append) (xs := #[.tmp 52, .tmp 58]) rfl ?_); at_builtin; refine Kd.R_append Kd.string (w0 := wz) wz.heap.size rfl (.tmp 52) (.tmp 58) 46 9 (.string ⟨#[]⟩) 16 rfl Tryd.underlying46 info9 rfl (by decide) (by omega) u10 (wordsF k x) (itoaB n6) [.string (itoaB n6)] (fun _ => True) (fun _ => False) rfl rfl ?aP (fun _ hk => hk.elim) ?aF ?aO ?aB ?aS ?aL ?_; (case aP => exact rfl); (case aB => exact HB1.out); (case aF => exact (fun _ _ => trivial)); (case aO => exact HO.out); (case aS => exact HB1.out.size); (case aL => exact HTL.out); intro v7 w7 ho hb hg_ hat_; clear hg_ hat_; have n1_ : Aside0 (Kd.R Kd.string 9 w7 wz.heap.size (fun _ => True) v7 (wordsF k x ++ [itoaB n6])) := ⟨ho⟩; have n3_ := Aside0.mk hb; clear HO HB1 ho hb; have HO := n1_; have HB1 := n3_; clear n1_ n3_; have e8 : w7.cell? ⟨wo.heap.size, 7, none⟩ = some (.slice A7 x.f7.length c7) := cell_keep BE.out HB1.out rfl))
              have HO0 : Aside0 (Kd.R Kd.string 9 w7 wz.heap.size (fun _ => True) v7 (wordsF k x ++ wordsM k x)) := ⟨by rw [HM.out, ← HN6.out]; exact HO.out⟩
              clear HO
              have HO := HO0
              clear HO0
              go_loopw [10, 78] (fun v10 i wr => ∃ a : Nat, i = .int .i64 a ∧ a ≤ x.f7.length ∧ Aside0 (Kd.R Kd.string 9 wr wz.heap.size (fun _ => True) v10 (wordsF k x ++ wordsM k x ++ (x.f7.take a).map itoaB)) ∧ Aside0 (Below wz.heap.size wz wr)) (fun _ i _ => x.f7.length - (intOf i).toNat)
              case atStart => exact ⟨0, rfl, by omega, ⟨by simpa using HO.out⟩, HB1⟩
              case round =>
                clear HO HB1
                obtain ⟨a, rfl, ha, HO, HB1⟩ := hrel
                have h7m := HC7.out.2.1
                by_cases hlt : a < x.f7.length
                · obtain ⟨n, hn⟩ : ∃ n, x.f7[a]? = some n := ⟨_, List.getElem?_eq_getElem hlt⟩
                  obtain ⟨ad7, rfl, hc1⟩ := num_at (Kd.C_below HC7.out HZ.out) a n hn
                  have x1 : wr.cell? (ad7.add a) = some (.int .i64 n) := pw_cell_below HB1.out hc1
                  have HRG := Aside0.mk (HRX.out.2 n (List.mem_of_getElem? hn))
                  have HT2 : Aside0 (wordsF k x ++ wordsM k x ++ (x.f7.take (a + 1)).map itoaB = (wordsF k x ++ wordsM k x ++ (x.f7.take a).map itoaB) ++ [itoaB n]) := ⟨by rw [take_next _ _ a n hn, List.append_assoc (wordsF k x ++ wordsM k x)]⟩
                  have HTL : Aside0 (((wordsF k x ++ wordsM k x ++ (x.f7.take a).map itoaB).length + 1) * 16 ≤ 140737488355328) := ⟨by have h1 := HWL.out; rw [wordsK, List.length_append, List.length_map] at h1; rw [List.length_append, List.length_map, List.length_take]; omega⟩
                  clear hc1 hn
                  go_wp2_with (first
                    | (go_at_call 32; refine (itoa_any (n) HRG.out _ (HL.out.below (HZ.out.trans (HB1.out.mono HZ.out.size)))).mono ?_; rintro e w3 ⟨rfl, hb⟩; have n1_ := Aside0.mk (Kd.R_below HO.out hb); have n3_ := Aside0.mk (below_then HB1.out HB1.out.size hb); clear HO HB1 hb; have HO := n1_; have HB1 := n3_; clear n1_ n3_)
                    | ((with_reducible refine gate_builtin (b := .append) (xs := #[.tmp 82, .tmp 85]) rfl ?_); at_builtin; refine Kd.R_append Kd.string (w0 := wz) wz.heap.size rfl (.tmp 82) (.tmp 85) 46 9 (.string ⟨#[]⟩) 16 rfl Tryd.underlying46 info9 rfl (by decide) (by omega) u10 (wordsF k x ++ wordsM k x ++ (x.f7.take a).map itoaB) (itoaB n) [.string (itoaB n)] (fun _ => True) (fun _ => False) rfl rfl ?aP (fun _ hk => hk.elim) ?aF ?aO ?aB ?aS ?aL ?_; (case aP => exact rfl); (case aB => exact HB1.out); (case aF => exact (fun _ _ => trivial)); (case aO => exact HO.out); (case aS => exact HB1.out.size); (case aL => exact HTL.out); intro v7 w7 ho hb hg_ hat_; clear hg_ hat_; have n1_ : Aside0 (Kd.R Kd.string 9 w7 wz.heap.size (fun _ => True) v7 (wordsF k x ++ wordsM k x ++ (x.f7.take a).map itoaB ++ [itoaB n])) := ⟨ho⟩; have n3_ := Aside0.mk hb; clear HO HB1 ho hb; have HO := n1_; have HB1 := n3_; clear n1_ n3_))
                  go_roundw
                  case rel => exact ⟨a + 1, by go_num, by omega, by rw [HT2.out]; exact HO, HB1⟩
                  case measure => simp [intOf]; omega
                · obtain rfl : a = x.f7.length := by omega
                  rw [List.take_length] at HO
                  clear hlt ha
                  have HOW : Aside0 (Kd.R Kd.string 9 wr wz.heap.size (fun _ => True) u10 (wordsX x)) := ⟨by unfold wordsX; rw [HKN.out]; exact HO.out⟩
                  have HBL2 : Aside0 (Lib.IsBuilder 61 5 w.heap.size w.heap.size (Lib.strCells (textOf (l.take j))) wr) := ⟨builder_below HBL.out (HZ0.out.trans (HB1.out.mono HZ0.out.size))⟩
                  go_wp2_with (go_at_call 33; refine (put_any w.heap.size (textOf (l.take j)) (wordsX x) _ HBL2.out HOW.out (by unfold wordsX wordsK wordsF; simp) HSZ.out (HZ.out.trans (HB1.out.mono HZ.out.size)).size).mono ?_; rintro e w9 ⟨rfl, h9, hb⟩; have BL9 := Aside0.mk h9; have HB9 := Aside0.mk ((HZ.out.trans (HB1.out.mono HZ.out.size)).trans hb); clear h9 hb)
                  go_roundw
                  case rel => exact ⟨j + 1, by go_num, by omega, ⟨by rw [HTX.out]; exact BL9.out⟩, HB9, HALL⟩
                  case measure => simp [intOf]; omega
        · have HCL := Aside0.mk hcl
          clear hcl
          go_upto_region 9 with (first | (go_at_call 10; refine (chk_any x A7 c7 _ (Kd.C_below HC7.out (HB.out.trans ((below_alloc (Below.refl _ wo) _).mono HB.out.size))) H7.out).mono ?_; rw [HCK.out]; rintro e w1 ⟨rfl, hb⟩; have BE := Aside0.mk (blk_below (heap_alloc_new wo (.cells (evC x (.slice A7 x.f7.length c7)) 24)) hb); have HE := Aside0.mk ((below_alloc (Below.refl _ wo) (.cells (evC x (.slice A7 x.f7.length c7)) 24)).trans (hb.mono (by rw [size_alloc]; exact Nat.le_succ _))); clear hb) | (go_at_call 23; refine (form_c2 k HK1.out HK2.out HCL.out wo.heap.size x (.slice A7 x.f7.length c7) _ HKK.out BE.out).mono ?_; rintro e w2 ⟨_, bW, rfl, ⟨AF, rfl, hF⟩, hW, hb⟩; have BW := Aside0.mk hW; clear hW; have FF := Aside0.mk hF; have n1_ := Aside0.mk (blk_below BE.out hb); have n2_ := Aside0.mk (HE.out.trans (hb.mono HE.out.size)); clear BE HE; have BE := n1_; have HE := n2_; clear n1_ n2_ hF hb))
          have BF := Aside0.mk (heap_alloc_new w2 (.cells #[.string (wordB k), .slice AF (foK k).length (foK k).length, .pointer none, .slice (some ⟨bW, 0, none⟩) (wsK k).length (wsK k).length, .pointer (some ⟨wo.heap.size, 6, none⟩), .bool false] 48))
          have n1_ := Aside0.mk (blk_below BE.out (bel1 w2 (.cells #[.string (wordB k), .slice AF (foK k).length (foK k).length, .pointer none, .slice (some ⟨bW, 0, none⟩) (wsK k).length (wsK k).length, .pointer (some ⟨wo.heap.size, 6, none⟩), .bool false] 48)))
          have n3_ := Aside0.mk (blk_below BW.out (bel1 w2 (.cells #[.string (wordB k), .slice AF (foK k).length (foK k).length, .pointer none, .slice (some ⟨bW, 0, none⟩) (wsK k).length (wsK k).length, .pointer (some ⟨wo.heap.size, 6, none⟩), .bool false] 48)))
          clear BW
          have BW := n3_
          clear n3_
          have HZ0 := Aside0.mk (HE.out.trans ((bel1 w2 (.cells #[.string (wordB k), .slice AF (foK k).length (foK k).length, .pointer none, .slice (some ⟨bW, 0, none⟩) (wsK k).length (wsK k).length, .pointer (some ⟨wo.heap.size, 6, none⟩), .bool false] 48)).mono HE.out.size))
          have n2_ : Aside0 (∀ (j o : Nat), (foK k)[j]? = some o → ∃ ad, AF = some ad ∧ (w2.alloc (.cells #[.string (wordB k), .slice AF (foK k).length (foK k).length, .pointer none, .slice (some ⟨bW, 0, none⟩) (wsK k).length (wsK k).length, .pointer (some ⟨wo.heap.size, 6, none⟩), .bool false] 48)).cell? (ad.add j) = some (.pointer (some ⟨wo.heap.size, o, none⟩))) := ⟨fun j o hj => by obtain ⟨ad, h1, _, h2⟩ := FF.out j o hj; exact ⟨ad, h1, pw_cell_below (bel1 w2 _) h2⟩⟩
          clear FF BE
          generalize w2.heap.size = g8 at BF ⊢
          generalize w2.alloc (.cells #[.string (wordB k), .slice AF (foK k).length (foK k).length, .pointer none, .slice (some ⟨bW, 0, none⟩) (wsK k).length (wsK k).length, .pointer (some ⟨wo.heap.size, 6, none⟩), .bool false] 48) = wz at *
          have HZ := Aside0.mk (HB.out.trans (HZ0.out.mono HB.out.size))
          have BE := n1_
          have FF := n2_
          clear n1_ n2_ HE
          have y0 : wz.cell? ⟨g8, 0, none⟩ = some (.string (wordB k)) := (blk_cell BF.out 0).trans rfl
          go_wp2_with (first | ((with_reducible refine gate_dst (N := 32) rfl ?_); refine Kd.R_lit Kd.string (w0 := wz) wz.heap.size 9 ?hg (N := 32) ?hd (xs := [wordB k]) (inner := [.string (wordB k)]) (ok := fun _ => True) (okp := fun _ => True) ?hr ?hp (fun _ hk => hk) trivial ?hb ?hs (by simp) ?_; (case hd => rfl); (case hg => rfl); (case hr => first | (go_simp; done) | (go_simp; rfl)); (case hp => exact (Reps.one (show Kd.M Kd.string _ _ _ (wordB k) [.string (wordB k)] from rfl) (Reps.none _ _))); (case hb => exact Below.refl _ _); (case hs => exact Nat.le_refl _); intro v0 w3 ho hb hg_ hat_; clear hg_ hat_; have HO := Aside0.mk ho; have HB1 := Aside0.mk hb; clear ho hb; have y1 : w3.cell? ⟨g8, 1, none⟩ = some (.slice AF (foK k).length (foK k).length) := cell_keep BF.out HB1.out rfl))
          clear y0 y1
          go_loopw [10, 36] (fun v10 i wr => ∃ a : Nat, i = .int .i64 a ∧ a ≤ (foK k).length ∧ Aside0 (Kd.R Kd.string 9 wr wz.heap.size (fun _ => True) v10 (wordB k :: ((foK k).take a).map (fun o => itoaB (getK x o)))) ∧ Aside0 (Below wz.heap.size wz wr)) (fun _ i _ => (foK k).length - (intOf i).toNat)
          case atStart => exact ⟨0, rfl, by omega, HO, HB1⟩
          case round =>
            clear HO HB1
            obtain ⟨a, rfl, ha, HO, HB1⟩ := hrel
            have hfl := fo_len k
            by_cases hlt : a < (foK k).length
            · obtain ⟨o, ho⟩ : ∃ o, (foK k)[a]? = some o := ⟨_, List.getElem?_eq_getElem hlt⟩
              obtain ⟨ad1, rfl, hc1⟩ := FF.out a o ho
              have ho6 := fo_le k o (List.mem_of_getElem? ho)
              have x1 : wr.cell? (ad1.add a) = some (.pointer (some ⟨wo.heap.size, o, none⟩)) := pw_cell_below HB1.out hc1
              obtain ⟨n, hn⟩ : ∃ n, n = getK x o := ⟨_, rfl⟩
              have x2 : wr.cell? ⟨wo.heap.size, o, none⟩ = some (.int .i64 n) := cell_keep BE.out HB1.out (by rw [hn]; exact ev_get x _ o ho6.1 ho6.2)
              have HRG := Aside0.mk (hn ▸ HRX.out.1 o ho6.2)
              have HT2 : Aside0 (wordB k :: ((foK k).take (a + 1)).map (fun o => itoaB (getK x o)) = (wordB k :: ((foK k).take a).map (fun o => itoaB (getK x o))) ++ [itoaB n]) := ⟨by rw [take_next _ _ a o ho, hn]; rfl⟩
              have HTL : Aside0 (((wordB k :: ((foK k).take a).map (fun o => itoaB (getK x o))).length + 1) * 16 ≤ 140737488355328) := ⟨by rw [List.length_cons, List.length_map, List.length_take]; omega⟩
              clear hc1 ho ho6 hn
              go_wp2_with (first
                | (go_at_call 32; refine (itoa_any (n) HRG.out _ (HL.out.below (HZ.out.trans (HB1.out.mono HZ.out.size)))).mono ?_; rintro e w3 ⟨rfl, hb⟩; have n1_ := Aside0.mk (Kd.R_below HO.out hb); have n3_ := Aside0.mk (below_then HB1.out HB1.out.size hb); clear HO HB1 hb; have HO := n1_; have HB1 := n3_; clear n1_ n3_)
                | ((with_reducible refine gate_builtin (b := .append) (xs := #[.tmp 40, .tmp 45]) rfl ?_); at_builtin; refine Kd.R_append Kd.string (w0 := wz) wz.heap.size rfl (.tmp 40) (.tmp 45) 46 9 (.string ⟨#[]⟩) 16 rfl Tryd.underlying46 info9 rfl (by decide) (by omega) u10 (wordB k :: ((foK k).take a).map (fun o => itoaB (getK x o))) (itoaB n) [.string (itoaB n)] (fun _ => True) (fun _ => False) rfl rfl ?aP (fun _ hk => hk.elim) ?aF ?aO ?aB ?aS ?aL ?_; (case aP => exact rfl); (case aB => exact HB1.out); (case aF => exact (fun _ _ => trivial)); (case aO => exact HO.out); (case aS => exact HB1.out.size); (case aL => exact HTL.out); intro v7 w7 ho hb hg_ hat_; clear hg_ hat_; have n1_ : Aside0 (Kd.R Kd.string 9 w7 wz.heap.size (fun _ => True) v7 (wordB k :: ((foK k).take a).map (fun o => itoaB (getK x o)) ++ [itoaB n])) := ⟨ho⟩; have n3_ := Aside0.mk hb; clear HO HB1 ho hb; have HO := n1_; have HB1 := n3_; clear n1_ n3_))
              go_roundw
              case rel => exact ⟨a + 1, by go_num, by omega, by rw [HT2.out]; exact HO, HB1⟩
              case measure => simp [intOf]; omega
            · obtain rfl : a = (foK k).length := by omega
              rw [List.take_length] at HO
              clear hlt ha
              have HO0 : Aside0 (Kd.R Kd.string 9 wr wz.heap.size (fun _ => True) u10 (wordsF k x)) := HO
              clear HO
              have HO := HO0
              clear HO0
              have z2 : wr.cell? ⟨g8, 2, none⟩ = some (.pointer none) := cell_keep BF.out HB1.out rfl
              have z3 : wr.cell? ⟨g8, 3, none⟩ = some (.slice (some ⟨bW, 0, none⟩) (wsK k).length (wsK k).length) := cell_keep BF.out HB1.out rfl
              have hu46 := Tryd.underlying46
              have e7 : wr.cell? ⟨wo.heap.size, 7, none⟩ = some (.slice A7 x.f7.length c7) := cell_keep BE.out HB1.out rfl
              have x6 : wr.cell? ⟨wo.heap.size, 6, none⟩ = some (.int .i64 x.f6) := cell_keep BE.out HB1.out rfl
              have z4 : wr.cell? ⟨g8, 4, none⟩ = some (.pointer (some ⟨wo.heap.size, 6, none⟩)) := cell_keep BF.out HB1.out rfl
              have hn6 := ws_in k x HCL.out HOK.out HKK.out
              obtain ⟨n6, hn6e, hn6l⟩ : ∃ n : Nat, x.f6 = n ∧ n < (wsK k).length := ⟨x.f6.toNat, by omega, by omega⟩
              rw [hn6e] at x6
              clear hn6
              have HM : Aside0 (wordsM k x = [(wsK k).getD n6 ⟨#[]⟩]) := ⟨by unfold wordsM; rw [HCL.out, hn6e]; rfl⟩
              have xw : wr.cell? ⟨bW, n6, none⟩ = some (.string ((wsK k).getD n6 ⟨#[]⟩)) := cell_keep BW.out HB1.out (by simp [hn6l])
              have HTL : Aside0 (((wordsF k x).length + 1) * 16 ≤ 140737488355328) := ⟨by unfold wordsF; rw [List.length_cons, List.length_map]; omega⟩
              have HX6 : Aside0 ((evC x (.slice A7 x.f7.length c7))[6]? = some (.int .i64 (n6 : Int))) := ⟨by rw [← hn6e]; rfl⟩
              have HXW : Aside0 ((((wsK k).map Value.string).toArray)[n6]? = some (.string ((wsK k).getD n6 ⟨#[]⟩))) := ⟨by simp [hn6l]⟩
              have hwl := ws_len k
              generalize (wsK k).length = nw at *
              generalize (wsK k).getD n6 ⟨#[]⟩ = sw at *
              clear hn6e
              go_wp2_with (fail)
              go_region_held3 (fun X => X.cell? ⟨g8, 3, none⟩ = some (.slice (some ⟨bW, 0, none⟩) nw nw) ∧ X.cell? ⟨g8, 4, none⟩ = some (.pointer (some ⟨wo.heap.size, 6, none⟩)) ∧ X.cell? ⟨wo.heap.size, 6, none⟩ = some (.int .i64 (n6 : Int)) ∧ X.cell? ⟨bW, n6, none⟩ = some (.string sw)) (first | go_keep | exact ⟨cell_keep BF.out HB2.out rfl, cell_keep BF.out HB2.out rfl, cell_keep BE.out HB2.out HX6.out, cell_keep BW.out HB2.out HXW.out⟩)
                (first | (refine Kd.R_append_step Kd.string (w0 := wz) wz.heap.size (by rfl) (.tmp 64) (.tmp 73) 46 9 (.string ⟨#[]⟩) 16 (by rfl) Tryd.underlying46 info9 (by rfl) (by decide) (by omega) u10 (wordsF k x) sw [.string sw] (fun _ => True) (fun _ => False) (by rfl) (by rfl) rfl (fun _ hk => hk.elim) (fun _ _ => trivial) (Kd.R_below HO.out (below_drew (Below.refl _ _))) (HB1.out.drew) HB1.out.size HTL.out ?_; intro v7 w7 ho hb _ _; have HO2 := Aside0.mk ho; have HB2 := Aside0.mk hb; clear ho hb))
              clear HO HB1
              have HO := HO2
              have HB1 := HB2
              clear HO2 HB2
              have e8 : w7.cell? ⟨wo.heap.size, 7, none⟩ = some (.slice A7 x.f7.length c7) := cell_keep BE.out HB1.out rfl
              go_wp2_with (fail)
              have HO0 : Aside0 (Kd.R Kd.string 9 w7 wz.heap.size (fun _ => True) v7 (wordsF k x ++ wordsM k x)) := ⟨by rw [HM.out]; exact HO.out⟩
              clear HO
              have HO := HO0
              clear HO0
              go_loopw [10, 78] (fun v10 i wr => ∃ a : Nat, i = .int .i64 a ∧ a ≤ x.f7.length ∧ Aside0 (Kd.R Kd.string 9 wr wz.heap.size (fun _ => True) v10 (wordsF k x ++ wordsM k x ++ (x.f7.take a).map itoaB)) ∧ Aside0 (Below wz.heap.size wz wr)) (fun _ i _ => x.f7.length - (intOf i).toNat)
              case atStart => exact ⟨0, rfl, by omega, ⟨by simpa using HO.out⟩, HB1⟩
              case round =>
                clear HO HB1
                obtain ⟨a, rfl, ha, HO, HB1⟩ := hrel
                have h7m := HC7.out.2.1
                by_cases hlt : a < x.f7.length
                · obtain ⟨n, hn⟩ : ∃ n, x.f7[a]? = some n := ⟨_, List.getElem?_eq_getElem hlt⟩
                  obtain ⟨ad7, rfl, hc1⟩ := num_at (Kd.C_below HC7.out HZ.out) a n hn
                  have x1 : wr.cell? (ad7.add a) = some (.int .i64 n) := pw_cell_below HB1.out hc1
                  have HRG := Aside0.mk (HRX.out.2 n (List.mem_of_getElem? hn))
                  have HT2 : Aside0 (wordsF k x ++ wordsM k x ++ (x.f7.take (a + 1)).map itoaB = (wordsF k x ++ wordsM k x ++ (x.f7.take a).map itoaB) ++ [itoaB n]) := ⟨by rw [take_next _ _ a n hn, List.append_assoc (wordsF k x ++ wordsM k x)]⟩
                  have HTL : Aside0 (((wordsF k x ++ wordsM k x ++ (x.f7.take a).map itoaB).length + 1) * 16 ≤ 140737488355328) := ⟨by have h1 := HWL.out; rw [wordsK, List.length_append, List.length_map] at h1; rw [List.length_append, List.length_map, List.length_take]; omega⟩
                  clear hc1 hn
                  go_wp2_with (first
                    | (go_at_call 32; refine (itoa_any (n) HRG.out _ (HL.out.below (HZ.out.trans (HB1.out.mono HZ.out.size)))).mono ?_; rintro e w3 ⟨rfl, hb⟩; have n1_ := Aside0.mk (Kd.R_below HO.out hb); have n3_ := Aside0.mk (below_then HB1.out HB1.out.size hb); clear HO HB1 hb; have HO := n1_; have HB1 := n3_; clear n1_ n3_)
                    | ((with_reducible refine gate_builtin (b := .append) (xs := #[.tmp 82, .tmp 85]) rfl ?_); at_builtin; refine Kd.R_append Kd.string (w0 := wz) wz.heap.size rfl (.tmp 82) (.tmp 85) 46 9 (.string ⟨#[]⟩) 16 rfl Tryd.underlying46 info9 rfl (by decide) (by omega) u10 (wordsF k x ++ wordsM k x ++ (x.f7.take a).map itoaB) (itoaB n) [.string (itoaB n)] (fun _ => True) (fun _ => False) rfl rfl ?aP (fun _ hk => hk.elim) ?aF ?aO ?aB ?aS ?aL ?_; (case aP => exact rfl); (case aB => exact HB1.out); (case aF => exact (fun _ _ => trivial)); (case aO => exact HO.out); (case aS => exact HB1.out.size); (case aL => exact HTL.out); intro v7 w7 ho hb hg_ hat_; clear hg_ hat_; have n1_ : Aside0 (Kd.R Kd.string 9 w7 wz.heap.size (fun _ => True) v7 (wordsF k x ++ wordsM k x ++ (x.f7.take a).map itoaB ++ [itoaB n])) := ⟨ho⟩; have n3_ := Aside0.mk hb; clear HO HB1 ho hb; have HO := n1_; have HB1 := n3_; clear n1_ n3_))
                  go_roundw
                  case rel => exact ⟨a + 1, by go_num, by omega, by rw [HT2.out]; exact HO, HB1⟩
                  case measure => simp [intOf]; omega
                · obtain rfl : a = x.f7.length := by omega
                  rw [List.take_length] at HO
                  clear hlt ha
                  have HOW : Aside0 (Kd.R Kd.string 9 wr wz.heap.size (fun _ => True) u10 (wordsX x)) := ⟨by unfold wordsX; rw [HKN.out]; exact HO.out⟩
                  have HBL2 : Aside0 (Lib.IsBuilder 61 5 w.heap.size w.heap.size (Lib.strCells (textOf (l.take j))) wr) := ⟨builder_below HBL.out (HZ0.out.trans (HB1.out.mono HZ0.out.size))⟩
                  go_wp2_with (go_at_call 33; refine (put_any w.heap.size (textOf (l.take j)) (wordsX x) _ HBL2.out HOW.out (by unfold wordsX wordsK wordsF; simp) HSZ.out (HZ.out.trans (HB1.out.mono HZ.out.size)).size).mono ?_; rintro e w9 ⟨rfl, h9, hb⟩; have BL9 := Aside0.mk h9; have HB9 := Aside0.mk ((HZ.out.trans (HB1.out.mono HZ.out.size)).trans hb); clear h9 hb)
                  go_roundw
                  case rel => exact ⟨j + 1, by go_num, by omega, ⟨by rw [HTX.out]; exact BL9.out⟩, HB9, HALL⟩
                  case measure => simp [intOf]; omega
    · obtain rfl : j = l.length := by omega
      rw [List.take_length] at HBL HAL
      have HPR : Aside0 (printOf l = (textOf l, 0)) := ⟨by unfold printOf; rw [if_pos (List.all_eq_true.2 HAL.out)]⟩
      go_wp2_with (go_at_call 34; refine (Tryd.Builder_String_any w.heap.size w.heap.size (textOf l).data.toList _ HBL.out HB.out.size).mono ?_; rintro e w1 ⟨rfl, hb⟩; have HE := Aside0.mk (HB.out.trans hb); clear hb)
      go_ret2
      exact ⟨ret_print (a := (textOf l, 0)) HPR.out.symm, HE.out⟩
end Go.Proofs.YtiapfhlipoomaaaDoor.Given
