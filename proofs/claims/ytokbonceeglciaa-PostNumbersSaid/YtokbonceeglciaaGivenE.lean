/- Who can meet the world by sending (post.Outs): the contract. No condition but that the arms are not more than a million million. -/
import Derived.Test.YtokbonceeglciaaGivenD
namespace Go.Proofs.Ytokbonceeglciaa.Given
open Go.RowKit Go.Shelf Go.Proofs.YtokbonceeglciaaW.PrintWords Go.Proofs.Ytokbonceeglciaa.Print
attribute [local go_sem] Oper.semAt_some

def outsW (x : S38) : List S47 := (selR (sendX 2) 0 x.f1).map fun y => ⟨x.f0, y.1, -1, 0, 2⟩
def outsOf (l : List S38) : List S47 := if rightOf l = true then l.flatMap outsW else []
theorem outsW_len (x : S38) : (outsW x).length ≤ x.f1.length := by
  simp only [outsW, List.length_map]
  exact selR_len _ _ _
theorem outs_len : ∀ l : List S38, (l.flatMap outsW).length ≤ arms l
  | [] => by simp [arms]
  | x :: l => by
    have := outsW_len x
    have := outs_len l
    simp only [List.flatMap_cons, List.length_append, arms, List.map_cons, List.sum_cons] at *
    omega

set_option maxRecDepth 100000 in
set_option maxHeartbeats 4000000 in
theorem outs_yes (A : Option Addr) (c : Nat) (l : List S38) (w : World) (hr : Kd.C k38 w A l.length l) (hc : l.length ≤ c) (hb : arms l ≤ 1000000000000) (hy : rightOf l = true) :
    Calls Try.prog 14 #[.slice A l.length c] w fun e w' => ∃ v, e = .returned v ∧ Kd.R k47 47 w' w.heap.size (fun _ => True) v (l.flatMap outsW) ∧ Below w.heap.size w w' := by
  have hm := hr.2.1
  obtain ⟨zs, hzl, hz, hrow⟩ := rawW hr
  have HR := Aside0.mk hr
  have HROW := Aside0.mk hrow
  have HZ := Aside0.mk hz
  have HY := Aside0.mk hy
  clear hr hrow hz hy
  refine (callsIn_wide (n := 3)).1 ?_
  refine callsIn_of_wp_marks Try.func14 rfl trivial ?_ rfl
  simp only [Try.ntmps14, List.size_toArray, List.length_cons, List.length_nil, Nat.reduceAdd, Nat.reduceSub, Array.replicate_succ, Array.replicate_zero, List.push_toArray, List.append_toArray, List.nil_append, List.cons_append]
  refine wpIn_wide.2 ?_
  go_wp2_with (go_at_call 22; refine (right_any A c l _ (Kd.C_alloc HR.out _) hc).mono ?_; rw [HY.out]; rintro e w1 ⟨rfl, hb1⟩)
  have hb1' := Aside0.mk hb1
  have hK1 : Kp w.heap.size w w1 := ⟨(below_alloc (Below.refl _ w) _).trans (hb1.mono (by simp)), (KT.alloc w _).trans ⟨hb1.size, fun k cs t fr hk _ _ => heap_keep hk hb1⟩⟩
  have hO1 : OutAt w.heap.size w.heap.size w1 [] := ⟨.slice none 0 0, heap_keep (Boxed.new w 33 _) hb1, Kd.R_nil _ _ _ _ _⟩
  have HK1 := Aside0.mk hK1
  have HO1 := Aside0.mk hO1
  clear hb1 hb1' hK1 hO1
  refine wp_loop (fun a' W => ∃ (k : Nat) (u5 u14 u15 u16 u17 u18 u19 u20 u30 : Value) (ds : List Deferred), a' = { tmps := #[.slice A l.length c, undef, .slice none 0 0, .pointer (some ⟨w.heap.size, 0, none⟩), undef, u5, undef, .slice A l.length c, .bool true, .bool false, undef, .slice A l.length c, .int .i64 l.length, .int .i64 k, u14, u15, u16, u17, u18, u19, u20, undef, undef, undef, undef, undef, undef, undef, undef, undef, u30, undef], defers := ds } ∧ k ≤ l.length ∧ Aside0 (Kp w.heap.size w W) ∧ Aside0 (OutAt w.heap.size w.heap.size W ((l.take k).flatMap outsW)) ∧ Aside0 (Marks w.heap.size ds W))
    (fun a' _ => l.length - (intOf (a'.tmps.getD 13 undef)).toNat) ?start ?round
  case start => exact ⟨0, undef, undef, undef, undef, undef, undef, undef, undef, undef, [], rfl, by omega, HK1, HO1, ⟨List.Pairwise.nil, by simp⟩⟩
  case round =>
    rintro a W ⟨k, u5, u14, u15, u16, u17, u18, u19, u20, u30, ds, rfl, hk, HK, HO, HM⟩
    by_cases hlt : k < l.length
    · obtain ⟨z, hz⟩ : ∃ z, zs[k]? = some z := ⟨zs[k]'(by omega), List.getElem?_eq_getElem _⟩
      have hlk : l[k]? = some l[k] := List.getElem?_eq_getElem hlt
      obtain ⟨z1, z2, z3⟩ := HZ.out k _ z hlk hz
      obtain ⟨ad, rfl, hbl, x0, x1⟩ := HROW.out k z hz
      replace x0 := (HK.out.1.cell (p := ad.add (k * 2)) hbl).trans x0
      replace x1 := (HK.out.1.cell (p := ⟨(ad.add (k * 2)).block, (ad.add (k * 2)).off + 1, none⟩) hbl).trans x1
      have Z1 := Aside0.mk z1
      have Z2 := Aside0.mk z2
      have Z3 := Aside0.mk z3
      clear z1 z2 z3 hlk
      go_wp2_with (fail)
      go_region_held3 (fun X => X.cell? ⟨W.heap.size, 1, none⟩ = some (.slice z.A z.n z.c)) (first | go_keep)
        (first | (go_at_call 24; refine (senders_any 2 _).mono ?_; rintro e w2 ⟨rfl, rfl⟩) | (go_at_call 23; refine (that23_any _ _ _ 31 _ _).mono ?_; rintro e w3 ⟨rfl, rfl⟩))
      obtain ⟨W0, hW0⟩ : ∃ W0, W0 = ((((W.alloc (.cells #[.int .i64 z.id, .slice z.A z.n z.c] 38)).alloc (.cells #[.int .i64 2] 3)).alloc (.cells #[.slice z.A z.n z.c] 36)).alloc (.cells #[.func (.func 31) #[] #[.pointer (some ⟨W.heap.size + 1, 0, none⟩)]] 54)).drew := ⟨_, rfl⟩
      have b5 : W0.heap[W.heap.size]? = some (.cells #[.int .i64 z.id, .slice z.A z.n z.c] 38 (0, 0)) := by
        rw [hW0]; exact heap_keep (heap_alloc_new W _) (below_drew (below_alloc (below_alloc (below_alloc (Below.refl _ _) _) _) _))
      have bN : Boxed W0 (W.heap.size + 1) 3 (.int .i64 2) := by
        rw [hW0]
        have h := Boxed.new (W.alloc (.cells #[.int .i64 z.id, .slice z.A z.n z.c] 38)) 3 (.int .i64 2)
        rw [World.size_alloc] at h
        exact (h.alloc _).alloc _
      have bS : Boxed W0 (W.heap.size + 1 + 1) 36 (.slice z.A z.n z.c) := by
        rw [hW0]
        have h := Boxed.new ((W.alloc (.cells #[.int .i64 z.id, .slice z.A z.n z.c] 38)).alloc (.cells #[.int .i64 2] 3)) 36 (.slice z.A z.n z.c)
        simp only [World.size_alloc] at h
        exact h.alloc _
      have bH : Boxed W0 (W.heap.size + 1 + 1 + 1) 54 (.func (.func 31) #[] #[.pointer (some ⟨W.heap.size + 1, 0, none⟩)]) := by
        rw [hW0]
        have h := Boxed.new (((W.alloc (.cells #[.int .i64 z.id, .slice z.A z.n z.c] 38)).alloc (.cells #[.int .i64 2] 3)).alloc (.cells #[.slice z.A z.n z.c] 36)) 54 (.func (.func 31) #[] #[.pointer (some ⟨W.heap.size + 1, 0, none⟩)])
        simp only [World.size_alloc] at h
        exact h
      have hWW : W.heap.size ≤ W0.heap.size := by rw [hW0]; simp [World.drew]; omega
      have hK0 : Kp w.heap.size w W0 := by
        rw [hW0]
        have hs := HK.out.1.size
        have h := (((HK.out.alloc hs (.cells #[.int .i64 z.id, .slice z.A z.n z.c] 38)).alloc (by simp; omega) (.cells #[.int .i64 2] 3)).alloc (by simp; omega) (.cells #[.slice z.A z.n z.c] 36)).alloc (by simp; omega) (.cells #[.func (.func 31) #[] #[.pointer (some ⟨W.heap.size + 1, 0, none⟩)]] 54)
        exact ⟨below_drew h.1, h.2⟩
      have hO0 : OutAt w.heap.size w.heap.size W0 ((l.take k).flatMap outsW) := by rw [hW0]; exact (((HO.out.alloc _).alloc _).alloc _).alloc _
      have hM0 : Marks w.heap.size ds W0 := by
        rw [hW0]
        exact HM.out.keeps (((((KeepsOthers.alloc _ _).trans (KeepsOthers.alloc _ _)).trans (KeepsOthers.alloc _ _)).trans (KeepsOthers.alloc _ _)).trans (KeepsOthers.drew _))
      rw [← hW0]
      clear hW0
      go_wp2_with (fail)
      refine (wpIn_wide (n := 3)).1 ?_
      obtain ⟨az, hal, haz, harow⟩ := rawA Z3.out
      obtain ⟨i0, hi0, hz0, hz1, hz2⟩ := info_parts info47
      have hn2 := Z2.out
      rw [← hal] at hn2
      rw [hn2] at bS
      have HN2 := Aside0.mk hn2
      clear hn2
      have hlen : ((l.take k).flatMap outsW).length + az.length ≤ 1000000000000 := by
        have h1 := outs_len (l.take k)
        have h2 := arms_take l k hlt
        omega
      obtain ⟨acc, hacc⟩ : ∃ acc, acc = (l.take k).flatMap outsW := ⟨_, rfl⟩
      rw [← hacc] at hO0 hlen
      have HACC := Aside0.mk hacc
      clear hacc
      refine wpIn_rangeFunc_ownH rfl (by decide) (gf := 30) (lb := #[.pointer (some ⟨W.heap.size + 1 + 1, 0, none⟩), .pointer (some ⟨W.heap.size + 1 + 1 + 1, 0, none⟩)]) rfl trivial (enters_of Try.func30 (by kernel_rfl) rfl)
        (armsS_stops 2 _ _ (W.heap.size + 1) w.heap.size z.A z.c az 2 (by omega) W0 bS bH bN (harow.below hK0.1) hK0.1.size) Kp.t (Kp.b hK0.1.size) (Below.refl _ _) (fun _ => rfl)
        (fun pre X => ((OutAt w.heap.size w.heap.size X (acc ++ pre.map fun y => (⟨z.id, (y.1 : Nat), -1, 0, 2⟩ : S47)) ∧ Kp w.heap.size w X) ∧ Marks w.heap.size ds X) ∧ X.heap[W.heap.size]? = some (.cells #[.int .i64 z.id, .slice z.A z.n z.c] 38 (0, 0)))
        (fun _ _ _ => False)
        (OwnFrom.and (OwnFrom.and (OwnFrom.and (own_out _ _ _ _) (own_Kp (Nat.le_refl _) hK0.1.size)) (own_marks hM0.lt)) own_cells)
        (fun _ _ _ _ _ hs _ _ => hs)
        ⟨⟨⟨by simpa using hO0, hK0⟩, hM0⟩, b5⟩
        (fun x a' _ => a' = { tmps := #[.slice (some ad) l.length c, undef, .slice none 0 0, .pointer (some ⟨w.heap.size, 0, none⟩), undef, .pointer (some ⟨W.heap.size, 0, none⟩), .int .i64 (x.1 : Nat), .slice (some ad) l.length c, .bool true, .bool false, undef, .slice (some ad) l.length c, .int .i64 l.length, .int .i64 k, .bool true, .pointer (some (ad.add (k * 2))), .agg #[.int .i64 z.id, .slice z.A z.n z.c], .pointer (some ⟨W.heap.size, 1, none⟩), .slice z.A z.n z.c, .func (.func 31) #[] #[.pointer (some ⟨W.heap.size + 1, 0, none⟩)], .func (.func 30) #[] #[.pointer (some ⟨W.heap.size + 1 + 1, 0, none⟩), .pointer (some ⟨W.heap.size + 1 + 1 + 1, 0, none⟩)], .int .i64 (x.1 : Nat), encA x.2, undef, undef, undef, undef, undef, undef, undef, u30, undef], defers := [] })
        (fun _ _ _ _ _ _ hs _ _ => hs)
        ?assign ?body ?done ?stop
      case assign =>
        rintro l' pre x X K hI hK
        gi_wp2
        exact hK _ _ (KeepsFrom.refl _ _) ⟨Below.refl _ _, KT.refl _⟩ hI rfl
      case body =>
        rintro l' pre x a' X hl' _ ⟨⟨⟨hO, hKX⟩, hMX⟩, h5⟩ rfl hlt'
        obtain ⟨ys, hys⟩ : ∃ ys, ys = acc ++ pre.map fun y => (⟨z.id, (y.1 : Nat), -1, 0, 2⟩ : S47) := ⟨_, rfl⟩
        rw [← hys] at hO
        have hxl : ys.length + 1 ≤ 1000000000000 := by rw [hys]; simp; omega
        have HYS := Aside0.mk hys
        clear hys
        obtain ⟨v, hv, hR⟩ := hO
        obtain ⟨_, inner, hown, hrep⟩ := hR
        have cv := hv.cell
        have c5 : X.cell? ⟨W.heap.size, 0, none⟩ = some (.int .i64 z.id) := (cell_of_row X _ 0 _ _ _ h5).trans rfl
        have hs := hKX.1.size
        gi_wp2_with (gi_at_builtin; refine wpListIn_append_own _ rfl _ _ 33 rfl w.heap.size 47 i0 _ 5 40 Try.underlying33 hi0 hz0 hz1 hz2 rfl (by decide) _ _ _ rfl (hown.alloc _) ⟨X.heap.size, 0, none⟩ 1 1 (enc47 ⟨z.id, (x.1 : Nat), -1, 0, 2⟩) rfl rfl (World.news_of_block (heap_alloc_new X _)) (by simp [enc47, Value.oneCell']) (by simp only [maxLen]; omega) (by omega) (by simp; omega) ?_; intro v' w1 hown' hgrow _; obtain ⟨g', cap', rfl⟩ := ownsRow_succ hown'; obtain ⟨hv1, hO1, hK1, hk1⟩ := out_push hs (Nat.le_refl _) hv hown hrep hown' hgrow; have hc1 := hv1.cell; have hf1 := hv1.frozen)
        refine ⟨hk1.from _, hK1, ⟨⟨?_, hKX.t hK1⟩, hMX.keeps hk1⟩, hK1.2.2 _ _ _ _ h5 (by decide) (by decide)⟩
        rw [List.map_append, ← List.append_assoc, ← HYS.out]
        exact hO1
      case done =>
        rintro D ys X hD rfl ⟨⟨⟨hO, hKX⟩, hMX⟩, _⟩ hDef
        have houts : acc ++ (selR (sends 2) 0 az).map (fun y => (⟨z.id, (y.1 : Nat), -1, 0, 2⟩ : S47)) = (l.take (k + 1)).flatMap outsW := by
          rw [List.take_succ_eq_append_getElem hlt, List.flatMap_append, HACC.out]
          congr 1
          rw [selR_raw (p := sends 2) (q := sendX 2) (fun j => (⟨z.id, (j : Nat), -1, 0, 2⟩ : S47)) 0 az l[k].f1 hal (fun j x y hx hy => by
            obtain ⟨h1, h2⟩ := haz j x y hx hy
            simp only [sends, sendX, h1, h2])]
          simp [outsW, Z1.out]
        rw [houts] at hO
        have hM1 : Marks w.heap.size ({ target := .collected D, args := #[] } :: ds) X := by
          refine ⟨List.pairwise_cons.2 ⟨fun d' hd' e => ?_, hMX.1⟩, fun d' hd' => ?_⟩
          · have := hM0.lt d' hd' D e.symm
            omega
          · rcases List.mem_cons.1 hd' with rfl | hd'
            · exact ⟨D, rfl, by have := hK0.1.size; omega, hDef⟩
            · exact hMX.2 d' hd'
        clear houts
        go_wp2_with (fail)
        exact ⟨⟨k + 1, _, _, _, _, _, _, _, _, _, _, rfl, by omega, ⟨hKX⟩, ⟨hO⟩, ⟨hM1⟩⟩, by simp [intOf]; omega⟩
      case stop =>
        rintro D c' pre X _ _ h _
        exact h.elim
    · obtain rfl : k = l.length := by omega
      obtain ⟨v, hv, hR⟩ := HO.out
      rw [List.take_length] at hR
      have HR' := Aside0.mk hR
      have cv := hv.cell
      clear hR hv
      go_wp2_with (fail)
      refine leaves_marks (n₀ := w.heap.size) (v := v) (fun X => (results_tmp (fn := Try.f14) rfl _ Try.prog X).trans rfl) ds W HM.out ?_
      intro W' hK' hcs
      refine ⟨v, rfl, ?_, HK.out.1.trans hK'.1⟩
      refine Kd.R_mono (Kd.R_step (Kd.R_bound HR'.out) (fun k hk hlt => ?_)) (fun _ _ => trivial)
      obtain ⟨_, _, _, q, hq, cs, hc⟩ := hk
      rw [hc]
      exact hcs k _ _ _ hc


set_option maxRecDepth 100000 in
set_option maxHeartbeats 1000000 in
theorem outs_no (A : Option Addr) (c : Nat) (l : List S38) (w : World) (hr : Kd.C k38 w A l.length l) (hc : l.length ≤ c) (hy : rightOf l = false) :
    Calls Try.prog 14 #[.slice A l.length c] w fun e w' => ∃ v, e = .returned v ∧ Kd.R k47 47 w' w.heap.size (fun _ => True) v [] ∧ Below w.heap.size w w' := by
  have HR := Aside0.mk hr
  have HY := Aside0.mk hy
  clear hr hy
  refine (callsIn_wide (n := 3)).1 ?_
  refine callsIn_of_wp_marks Try.func14 rfl trivial ?_ rfl
  simp only [Try.ntmps14, List.size_toArray, List.length_cons, List.length_nil, Nat.reduceAdd, Nat.reduceSub, Array.replicate_succ, Array.replicate_zero, List.push_toArray, List.append_toArray, List.nil_append, List.cons_append]
  refine wpIn_wide.2 ?_
  go_wp2_with (go_at_call 22; refine (right_any A c l _ (Kd.C_alloc HR.out _) hc).mono ?_; rw [HY.out]; rintro e w1 ⟨rfl, hb1⟩; have HB1 := Aside0.mk hb1; have c1 : w1.cell? ⟨w.heap.size, 0, none⟩ = some (.slice none 0 0) := (Boxed.cell (heap_keep (Boxed.new w 33 (.slice none 0 0)) hb1)); clear hb1)
  refine leaves_marks (n₀ := w.heap.size) (v := .slice none 0 0) (fun X => (results_tmp (fn := Try.f14) rfl _ Try.prog X).trans rfl) [] w1 ⟨List.Pairwise.nil, by simp⟩ ?_
  intro W' hK' hcs
  exact ⟨_, rfl, Kd.R_nil _ _ _ _ _, ((below_alloc (Below.refl _ w) _).trans (HB1.out.mono (by simp))).trans hK'.1⟩
def post_Outs.f (l0 : List S38) : Option (List S47) := if arms l0 ≤ 1000000000000 then some (outsOf l0) else none
theorem post_Outs.calls (A0 : Option Addr) (c0 : Nat) (l0 : List S38) (r : List S47) (w : World) (hr0 : Kd.C k38 w A0 l0.length l0) (hc0 : l0.length ≤ c0) (h : post_Outs.f l0 = some r) :
    Calls Try.prog 14 #[.slice A0 l0.length c0] w fun e w' => ∃ v0_ : Value, e = .returned v0_ ∧ Kd.R k47 47 w' w.heap.size (fun _ => True) v0_ r ∧ Below w.heap.size w w' := by
  unfold post_Outs.f at h
  split at h
  · injection h with h
    subst h
    unfold outsOf
    by_cases hy : rightOf l0 = true
    · rw [if_pos hy]
      exact outs_yes A0 c0 l0 w hr0 hc0 (by assumption) hy
    · rw [if_neg hy]
      exact outs_no A0 c0 l0 w hr0 hc0 (by simpa using hy)
  · cases h

end Go.Proofs.Ytokbonceeglciaa.Given
