/- The walk of TraceJoins. -/
import Derived.Test.YtiapfhlipoomaaaDoorGivenQ
import Derived.Test.YtiapfhlipoomaaaDoorPlainD
namespace Go.Proofs.YtiapfhlipoomaaaDoor.Given
open Go.RowKit Go.Proofs.YtiapfhlipoomaaaDoorW.PrintWords Go.Proofs.YtiapfhlipoomaaaDoorW.PrintLast Go.Proofs.YtiapfhlipoomaaaDoorW.PrintMore Go.Proofs.YtiapfhlipoomaaaDoor.Print
set_option linter.unusedVariables false
set_option linter.unusedSimpArgs false

theorem heap24 : Kd.Heap k24 := Kd.heap_iso _ (Kd.heap_pair (Kd.heap_int _) (Kd.heap_pair (Kd.heap_int _) (Kd.heap_pair (Kd.heap_int _) (Kd.heap_pair (Kd.heap_int _) (Kd.heap_pair (Kd.heap_int _) (Kd.heap_pair (Kd.heap_int _) (Kd.heap_pair (Kd.heap_int _) (Kd.heap_slice 3 (Kd.heap_int _)))))))))
theorem own_ne {W : World} {base k : Nat} {ok : Nat → Prop} {v : Value} {xs : List S24} (h : Kd.N k24 24 W base ok v xs) (hk : k < base) : some k ≠ v.ownBlock := fun he => by
  have := Kd.N_base h k he.symm
  omega
set_option maxRecDepth 100000 in
set_option maxHeartbeats 4000000 in
theorem joins_walk (A0 A1 : Option Addr) (c0 c1 : Nat) (a b : List S24) (w : World) (ha : Kd.C k24 w A0 a.length a) (hb : Kd.C k24 w A1 b.length b) (hc0 : a.length ≤ c0) (hc1 : b.length ≤ c1) (hL : LW w) (hga : ∀ x ∈ a, rngX x) (hgb : ∀ x ∈ b, rngX x) (hla : a.length ≤ 4611686018427387904) (hlb : b.length ≤ 4611686018427387904) :
    Calls Tryd.prog 7 #[.slice A0 a.length c0, .slice A1 b.length c1] w fun e w' => e = .returned (.bool true) ∧ Below w.heap.size w w' := by
  obtain ⟨ka, hka⟩ := beyond_says a hla
  obtain ⟨kb, hkb⟩ := beyond_says b hlb
  have HA := Aside0.mk ha
  have HBB := Aside0.mk hb
  have HL := Aside0.mk hL
  have RA := Aside0.mk hga
  have RB := Aside0.mk hgb
  have RC : Aside0 (∀ x ∈ a ++ b, rngX x) := ⟨fun x hx => (List.mem_append.1 hx).elim (hga x) (hgb x)⟩
  obtain ⟨ab, hab⟩ : ∃ ab, ab = a ++ b := ⟨_, rfl⟩
  have HAB := Aside0.mk hab
  rw [← hab] at RC
  have HC0 := Aside0.mk hc0
  have HC1 := Aside0.mk hc1
  have HB := Aside0.mk (Below.refl w.heap.size w)
  have PA := Aside0.mk True.intro
  have PB := Aside0.mk True.intro
  have PC := Aside0.mk True.intro
  have QA := Aside0.mk True.intro
  have QB := Aside0.mk True.intro
  have QC := Aside0.mk True.intro
  clear ha hb hL hga hgb hc0 hc1 hla hlb
  by_cases ga : evz a ≤ 2147483647
  · rw [decide_eq_false (fun h => h ga)] at hka
    have HKA := Aside0.mk hka
    by_cases gb : evz b ≤ 2147483647
    · rw [decide_eq_false (fun h => h gb)] at hkb
      have HKB := Aside0.mk hkb
      have l1 := evz_len a
      have l2 := evz_len b
      have LM : Aside0 (a.length + b.length ≤ 100000000) := ⟨by omega⟩
      obtain ⟨kc, hkc⟩ := beyond_says ab (by rw [hab, List.length_append]; omega)
      clear hab
      by_cases gc : evz ab ≤ 2147483647
      · rw [decide_eq_false (fun h => h gc)] at hkc
        have HKC := Aside0.mk hkc
        have SZ : Aside0 ((textOf a).size ≤ 1099511627776 ∧ (textOf b).size ≤ 1099511627776 ∧ (textOf ab).size ≤ 1099511627776) := ⟨by have := text_evz a RA.out; omega, by have := text_evz b RB.out; omega, by have := text_evz ab RC.out; omega⟩
        clear hka hkb hkc ga gb gc l1 l2
        rcases ha : a.all okX with _ | _ <;> rcases hb : b.all okX with _ | _
        · have PRA : Aside0 (printOf a = (⟨#[]⟩, 180)) := ⟨by unfold printOf; rw [ha]; rfl⟩
          have PRB : Aside0 (printOf b = (⟨#[]⟩, 180)) := ⟨by unfold printOf; rw [hb]; rfl⟩
          have PRC : Aside0 (printOf ab = (⟨#[]⟩, 180)) := ⟨by rw [HAB.out]; unfold printOf; rw [List.all_append, ha, hb]; rfl⟩
          clear ha hb
          go_enter Tryd.func7, Tryd.ntmps7
          go_wp2_with (first
            | (go_at_call 12; clear PA; refine (squintlaw18_beyond.calls ka A0 c0 a _ _ (Kd.C_below HA.out HB.out) HC0.out HKA.out).mono ?_; rintro e w1 ⟨rfl, hd⟩; have n0_ := Aside0.mk (below_step HB.out hd.below); clear HB; have HB := n0_; clear n0_ hd)
            | (go_at_call 12; clear PB; refine (squintlaw18_beyond.calls kb A1 c1 b _ _ (Kd.C_below HBB.out HB.out) HC1.out HKB.out).mono ?_; rintro e w2 ⟨rfl, hd⟩; have n0_ := Aside0.mk (below_step HB.out hd.below); clear HB; have HB := n0_; clear n0_ hd)
            | (go_at_call 12; clear PC; refine (squintlaw18_beyond.calls kc A5 c5 ab _ _ HN5.out HC5.out HKC.out).mono ?_; rintro e w6 ⟨rfl, hd⟩; have n0_ := Aside0.mk (below_step HB.out hd.below); clear HB; have HB := n0_; clear n0_; have m_ := Aside0.mk (Kd.C_below HN5.out hd.below); clear HN5; have HN5 := m_; clear m_ hd)
            | ((with_reducible refine gate_dst (N := 18) rfl ?_); refine Kd.N_lit k24 (w0 := w) w.heap.size 24 ?hg (N' := 18) ?hd (xs := ([] : List S24)) (inner := []) (ok := fun _ => True) (okp := fun _ => True) ?hr ?hp (fun _ hk => hk) trivial HB.out HB.out.size (by simp) ?_; (case hd => rfl); (case hg => rfl); (case hr => first | (go_simp; done) | (go_simp; rfl)); (case hp => exact (Reps.none _ _)); intro v3 w3 ho hb hg_ hn_; clear hg_ hn_; clear HB; have HB := Aside0.mk hb; have HN := Aside0.mk ho; clear ho hb)
            | ((with_reducible refine gate_builtin (b := .append) (xs := #[.tmp 19, .tmp 20]) rfl ?_); at_builtin; refine Kd.N_append_rows k24 (w0 := w) w.heap.size rfl (.tmp 19) (.tmp 20) 29 24 (.agg #[(.int .i64 0), (.int .i64 0), (.int .i64 0), (.int .i64 0), (.int .i64 0), (.int .i64 0), (.int .i64 0), (.slice none 0 0)]) 80 rfl Tryd.underlying29 info24 rfl (by decide) (by decide) v3 [] a A0 a.length c0 (fun _ => True) (fun k => k < w.heap.size) rfl rfl HN.out (Kd.F_below (Kd.C_F heap24 HA.out) HB.out) (fun k hk => ⟨trivial, own_ne HN.out hk⟩) (fun _ _ => trivial) HB.out HB.out.size (by have := LM.out; (try simp only [List.length_nil]); omega) ?_; intro v4 w4 ho hb hg_ hn_; clear hg_ hn_; clear HB HN; have HB := Aside0.mk hb; rw [List.nil_append] at ho; have HN := Aside0.mk ho; clear ho hb)
            | ((with_reducible refine gate_builtin (b := .append) (xs := #[.tmp 22, .tmp 23]) rfl ?_); at_builtin; refine Kd.N_append_rows k24 (w0 := w) w.heap.size rfl (.tmp 22) (.tmp 23) 29 24 (.agg #[(.int .i64 0), (.int .i64 0), (.int .i64 0), (.int .i64 0), (.int .i64 0), (.int .i64 0), (.int .i64 0), (.slice none 0 0)]) 80 rfl Tryd.underlying29 info24 rfl (by decide) (by decide) v4 a b A1 b.length c1 (fun _ => True) (fun k => k < w.heap.size) rfl rfl HN.out (Kd.F_below (Kd.C_F heap24 HBB.out) HB.out) (fun k hk => ⟨trivial, own_ne HN.out hk⟩) (fun _ _ => trivial) HB.out HB.out.size (by have := LM.out; (try simp only [List.length_nil]); omega) ?_; intro v5 w5 ho hb hg_ hn_; clear hg_ hn_; clear HB HN; have HB := Aside0.mk hb; rw [← HAB.out] at ho; obtain ⟨A5, c5, rfl, h5, hC5⟩ := Kd.N_reads ho; have HN5 := Aside0.mk hC5; have HC5 := Aside0.mk h5; clear ho hb h5 hC5)
            | (go_at_call 9; refine (shown_true _ (HL.out.below HB.out)).mono ?_; rintro e w7 ⟨rfl, hb⟩; have n0_ := Aside0.mk (below_step HB.out hb); clear HB; have HB := n0_; clear n0_; have m_ := Aside0.mk (Kd.C_below HN5.out hb); clear HN5; have HN5 := m_; clear m_ hb)
            | (go_at_call 14; clear QA; refine (print_any A0 c0 a _ (Kd.C_below HA.out HB.out) (HL.out.below HB.out) RA.out SZ.out.1).mono ?_; rw [PRA.out]; rintro e w8 ⟨rfl, hb⟩; have n0_ := Aside0.mk (below_step HB.out hb); clear HB; have HB := n0_; clear n0_; have m_ := Aside0.mk (Kd.C_below HN5.out hb); clear HN5; have HN5 := m_; clear m_; clear hb)
            | (go_at_call 14; clear QB; refine (print_any A1 c1 b _ (Kd.C_below HBB.out HB.out) (HL.out.below HB.out) RB.out SZ.out.2.1).mono ?_; rw [PRB.out]; rintro e w9 ⟨rfl, hb⟩; have n0_ := Aside0.mk (below_step HB.out hb); clear HB; have HB := n0_; clear n0_; have m_ := Aside0.mk (Kd.C_below HN5.out hb); clear HN5; have HN5 := m_; clear m_; clear hb)
            | (go_at_call 14; clear QC; refine (print_any A5 c5 ab _ HN5.out (HL.out.below HB.out) RC.out SZ.out.2.2).mono ?_; rw [PRC.out]; rintro e w10 ⟨rfl, hb⟩; have n0_ := Aside0.mk (below_step HB.out hb); clear HB; have HB := n0_; clear n0_; clear hb))
          go_returns
          exact ⟨rfl, HB.out⟩
        · have PRA : Aside0 (printOf a = (⟨#[]⟩, 180)) := ⟨by unfold printOf; rw [ha]; rfl⟩
          have PRB : Aside0 (printOf b = (textOf b, 0)) := ⟨by unfold printOf; rw [hb]; rfl⟩
          have PRC : Aside0 (printOf ab = (⟨#[]⟩, 180)) := ⟨by rw [HAB.out]; unfold printOf; rw [List.all_append, ha, hb]; rfl⟩
          clear ha hb
          go_enter Tryd.func7, Tryd.ntmps7
          go_wp2_with (first
            | (go_at_call 12; clear PA; refine (squintlaw18_beyond.calls ka A0 c0 a _ _ (Kd.C_below HA.out HB.out) HC0.out HKA.out).mono ?_; rintro e w1 ⟨rfl, hd⟩; have n0_ := Aside0.mk (below_step HB.out hd.below); clear HB; have HB := n0_; clear n0_ hd)
            | (go_at_call 12; clear PB; refine (squintlaw18_beyond.calls kb A1 c1 b _ _ (Kd.C_below HBB.out HB.out) HC1.out HKB.out).mono ?_; rintro e w2 ⟨rfl, hd⟩; have n0_ := Aside0.mk (below_step HB.out hd.below); clear HB; have HB := n0_; clear n0_ hd)
            | (go_at_call 12; clear PC; refine (squintlaw18_beyond.calls kc A5 c5 ab _ _ HN5.out HC5.out HKC.out).mono ?_; rintro e w6 ⟨rfl, hd⟩; have n0_ := Aside0.mk (below_step HB.out hd.below); clear HB; have HB := n0_; clear n0_; have m_ := Aside0.mk (Kd.C_below HN5.out hd.below); clear HN5; have HN5 := m_; clear m_ hd)
            | ((with_reducible refine gate_dst (N := 18) rfl ?_); refine Kd.N_lit k24 (w0 := w) w.heap.size 24 ?hg (N' := 18) ?hd (xs := ([] : List S24)) (inner := []) (ok := fun _ => True) (okp := fun _ => True) ?hr ?hp (fun _ hk => hk) trivial HB.out HB.out.size (by simp) ?_; (case hd => rfl); (case hg => rfl); (case hr => first | (go_simp; done) | (go_simp; rfl)); (case hp => exact (Reps.none _ _)); intro v3 w3 ho hb hg_ hn_; clear hg_ hn_; clear HB; have HB := Aside0.mk hb; have HN := Aside0.mk ho; clear ho hb)
            | ((with_reducible refine gate_builtin (b := .append) (xs := #[.tmp 19, .tmp 20]) rfl ?_); at_builtin; refine Kd.N_append_rows k24 (w0 := w) w.heap.size rfl (.tmp 19) (.tmp 20) 29 24 (.agg #[(.int .i64 0), (.int .i64 0), (.int .i64 0), (.int .i64 0), (.int .i64 0), (.int .i64 0), (.int .i64 0), (.slice none 0 0)]) 80 rfl Tryd.underlying29 info24 rfl (by decide) (by decide) v3 [] a A0 a.length c0 (fun _ => True) (fun k => k < w.heap.size) rfl rfl HN.out (Kd.F_below (Kd.C_F heap24 HA.out) HB.out) (fun k hk => ⟨trivial, own_ne HN.out hk⟩) (fun _ _ => trivial) HB.out HB.out.size (by have := LM.out; (try simp only [List.length_nil]); omega) ?_; intro v4 w4 ho hb hg_ hn_; clear hg_ hn_; clear HB HN; have HB := Aside0.mk hb; rw [List.nil_append] at ho; have HN := Aside0.mk ho; clear ho hb)
            | ((with_reducible refine gate_builtin (b := .append) (xs := #[.tmp 22, .tmp 23]) rfl ?_); at_builtin; refine Kd.N_append_rows k24 (w0 := w) w.heap.size rfl (.tmp 22) (.tmp 23) 29 24 (.agg #[(.int .i64 0), (.int .i64 0), (.int .i64 0), (.int .i64 0), (.int .i64 0), (.int .i64 0), (.int .i64 0), (.slice none 0 0)]) 80 rfl Tryd.underlying29 info24 rfl (by decide) (by decide) v4 a b A1 b.length c1 (fun _ => True) (fun k => k < w.heap.size) rfl rfl HN.out (Kd.F_below (Kd.C_F heap24 HBB.out) HB.out) (fun k hk => ⟨trivial, own_ne HN.out hk⟩) (fun _ _ => trivial) HB.out HB.out.size (by have := LM.out; (try simp only [List.length_nil]); omega) ?_; intro v5 w5 ho hb hg_ hn_; clear hg_ hn_; clear HB HN; have HB := Aside0.mk hb; rw [← HAB.out] at ho; obtain ⟨A5, c5, rfl, h5, hC5⟩ := Kd.N_reads ho; have HN5 := Aside0.mk hC5; have HC5 := Aside0.mk h5; clear ho hb h5 hC5)
            | (go_at_call 9; refine (shown_true _ (HL.out.below HB.out)).mono ?_; rintro e w7 ⟨rfl, hb⟩; have n0_ := Aside0.mk (below_step HB.out hb); clear HB; have HB := n0_; clear n0_; have m_ := Aside0.mk (Kd.C_below HN5.out hb); clear HN5; have HN5 := m_; clear m_ hb)
            | (go_at_call 14; clear QA; refine (print_any A0 c0 a _ (Kd.C_below HA.out HB.out) (HL.out.below HB.out) RA.out SZ.out.1).mono ?_; rw [PRA.out]; rintro e w8 ⟨rfl, hb⟩; have n0_ := Aside0.mk (below_step HB.out hb); clear HB; have HB := n0_; clear n0_; have m_ := Aside0.mk (Kd.C_below HN5.out hb); clear HN5; have HN5 := m_; clear m_; clear hb)
            | (go_at_call 14; clear QB; refine (print_any A1 c1 b _ (Kd.C_below HBB.out HB.out) (HL.out.below HB.out) RB.out SZ.out.2.1).mono ?_; rw [PRB.out]; rintro e w9 ⟨rfl, hb⟩; have n0_ := Aside0.mk (below_step HB.out hb); clear HB; have HB := n0_; clear n0_; have m_ := Aside0.mk (Kd.C_below HN5.out hb); clear HN5; have HN5 := m_; clear m_; clear hb)
            | (go_at_call 14; clear QC; refine (print_any A5 c5 ab _ HN5.out (HL.out.below HB.out) RC.out SZ.out.2.2).mono ?_; rw [PRC.out]; rintro e w10 ⟨rfl, hb⟩; have n0_ := Aside0.mk (below_step HB.out hb); clear HB; have HB := n0_; clear n0_; clear hb))
          go_returns
          exact ⟨rfl, HB.out⟩
        · have PRA : Aside0 (printOf a = (textOf a, 0)) := ⟨by unfold printOf; rw [ha]; rfl⟩
          have PRB : Aside0 (printOf b = (⟨#[]⟩, 180)) := ⟨by unfold printOf; rw [hb]; rfl⟩
          have PRC : Aside0 (printOf ab = (⟨#[]⟩, 180)) := ⟨by rw [HAB.out]; unfold printOf; rw [List.all_append, ha, hb]; rfl⟩
          clear ha hb
          go_enter Tryd.func7, Tryd.ntmps7
          go_wp2_with (first
            | (go_at_call 12; clear PA; refine (squintlaw18_beyond.calls ka A0 c0 a _ _ (Kd.C_below HA.out HB.out) HC0.out HKA.out).mono ?_; rintro e w1 ⟨rfl, hd⟩; have n0_ := Aside0.mk (below_step HB.out hd.below); clear HB; have HB := n0_; clear n0_ hd)
            | (go_at_call 12; clear PB; refine (squintlaw18_beyond.calls kb A1 c1 b _ _ (Kd.C_below HBB.out HB.out) HC1.out HKB.out).mono ?_; rintro e w2 ⟨rfl, hd⟩; have n0_ := Aside0.mk (below_step HB.out hd.below); clear HB; have HB := n0_; clear n0_ hd)
            | (go_at_call 12; clear PC; refine (squintlaw18_beyond.calls kc A5 c5 ab _ _ HN5.out HC5.out HKC.out).mono ?_; rintro e w6 ⟨rfl, hd⟩; have n0_ := Aside0.mk (below_step HB.out hd.below); clear HB; have HB := n0_; clear n0_; have m_ := Aside0.mk (Kd.C_below HN5.out hd.below); clear HN5; have HN5 := m_; clear m_ hd)
            | ((with_reducible refine gate_dst (N := 18) rfl ?_); refine Kd.N_lit k24 (w0 := w) w.heap.size 24 ?hg (N' := 18) ?hd (xs := ([] : List S24)) (inner := []) (ok := fun _ => True) (okp := fun _ => True) ?hr ?hp (fun _ hk => hk) trivial HB.out HB.out.size (by simp) ?_; (case hd => rfl); (case hg => rfl); (case hr => first | (go_simp; done) | (go_simp; rfl)); (case hp => exact (Reps.none _ _)); intro v3 w3 ho hb hg_ hn_; clear hg_ hn_; clear HB; have HB := Aside0.mk hb; have HN := Aside0.mk ho; clear ho hb)
            | ((with_reducible refine gate_builtin (b := .append) (xs := #[.tmp 19, .tmp 20]) rfl ?_); at_builtin; refine Kd.N_append_rows k24 (w0 := w) w.heap.size rfl (.tmp 19) (.tmp 20) 29 24 (.agg #[(.int .i64 0), (.int .i64 0), (.int .i64 0), (.int .i64 0), (.int .i64 0), (.int .i64 0), (.int .i64 0), (.slice none 0 0)]) 80 rfl Tryd.underlying29 info24 rfl (by decide) (by decide) v3 [] a A0 a.length c0 (fun _ => True) (fun k => k < w.heap.size) rfl rfl HN.out (Kd.F_below (Kd.C_F heap24 HA.out) HB.out) (fun k hk => ⟨trivial, own_ne HN.out hk⟩) (fun _ _ => trivial) HB.out HB.out.size (by have := LM.out; (try simp only [List.length_nil]); omega) ?_; intro v4 w4 ho hb hg_ hn_; clear hg_ hn_; clear HB HN; have HB := Aside0.mk hb; rw [List.nil_append] at ho; have HN := Aside0.mk ho; clear ho hb)
            | ((with_reducible refine gate_builtin (b := .append) (xs := #[.tmp 22, .tmp 23]) rfl ?_); at_builtin; refine Kd.N_append_rows k24 (w0 := w) w.heap.size rfl (.tmp 22) (.tmp 23) 29 24 (.agg #[(.int .i64 0), (.int .i64 0), (.int .i64 0), (.int .i64 0), (.int .i64 0), (.int .i64 0), (.int .i64 0), (.slice none 0 0)]) 80 rfl Tryd.underlying29 info24 rfl (by decide) (by decide) v4 a b A1 b.length c1 (fun _ => True) (fun k => k < w.heap.size) rfl rfl HN.out (Kd.F_below (Kd.C_F heap24 HBB.out) HB.out) (fun k hk => ⟨trivial, own_ne HN.out hk⟩) (fun _ _ => trivial) HB.out HB.out.size (by have := LM.out; (try simp only [List.length_nil]); omega) ?_; intro v5 w5 ho hb hg_ hn_; clear hg_ hn_; clear HB HN; have HB := Aside0.mk hb; rw [← HAB.out] at ho; obtain ⟨A5, c5, rfl, h5, hC5⟩ := Kd.N_reads ho; have HN5 := Aside0.mk hC5; have HC5 := Aside0.mk h5; clear ho hb h5 hC5)
            | (go_at_call 9; refine (shown_true _ (HL.out.below HB.out)).mono ?_; rintro e w7 ⟨rfl, hb⟩; have n0_ := Aside0.mk (below_step HB.out hb); clear HB; have HB := n0_; clear n0_; have m_ := Aside0.mk (Kd.C_below HN5.out hb); clear HN5; have HN5 := m_; clear m_ hb)
            | (go_at_call 14; clear QA; refine (print_any A0 c0 a _ (Kd.C_below HA.out HB.out) (HL.out.below HB.out) RA.out SZ.out.1).mono ?_; rw [PRA.out]; rintro e w8 ⟨rfl, hb⟩; have n0_ := Aside0.mk (below_step HB.out hb); clear HB; have HB := n0_; clear n0_; have m_ := Aside0.mk (Kd.C_below HN5.out hb); clear HN5; have HN5 := m_; clear m_; clear hb)
            | (go_at_call 14; clear QB; refine (print_any A1 c1 b _ (Kd.C_below HBB.out HB.out) (HL.out.below HB.out) RB.out SZ.out.2.1).mono ?_; rw [PRB.out]; rintro e w9 ⟨rfl, hb⟩; have n0_ := Aside0.mk (below_step HB.out hb); clear HB; have HB := n0_; clear n0_; have m_ := Aside0.mk (Kd.C_below HN5.out hb); clear HN5; have HN5 := m_; clear m_; clear hb)
            | (go_at_call 14; clear QC; refine (print_any A5 c5 ab _ HN5.out (HL.out.below HB.out) RC.out SZ.out.2.2).mono ?_; rw [PRC.out]; rintro e w10 ⟨rfl, hb⟩; have n0_ := Aside0.mk (below_step HB.out hb); clear HB; have HB := n0_; clear n0_; clear hb))
          go_returns
          exact ⟨rfl, HB.out⟩
        · have PRA : Aside0 (printOf a = (textOf a, 0)) := ⟨by unfold printOf; rw [ha]; rfl⟩
          have PRB : Aside0 (printOf b = (textOf b, 0)) := ⟨by unfold printOf; rw [hb]; rfl⟩
          have PRC : Aside0 (printOf ab = (textOf a ++ textOf b, 0)) := ⟨by rw [HAB.out]; unfold printOf; rw [List.all_append, ha, hb, text_app]; rfl⟩
          clear ha hb
          go_enter Tryd.func7, Tryd.ntmps7
          go_wp2_with (first
            | (go_at_call 12; clear PA; refine (squintlaw18_beyond.calls ka A0 c0 a _ _ (Kd.C_below HA.out HB.out) HC0.out HKA.out).mono ?_; rintro e w1 ⟨rfl, hd⟩; have n0_ := Aside0.mk (below_step HB.out hd.below); clear HB; have HB := n0_; clear n0_ hd)
            | (go_at_call 12; clear PB; refine (squintlaw18_beyond.calls kb A1 c1 b _ _ (Kd.C_below HBB.out HB.out) HC1.out HKB.out).mono ?_; rintro e w2 ⟨rfl, hd⟩; have n0_ := Aside0.mk (below_step HB.out hd.below); clear HB; have HB := n0_; clear n0_ hd)
            | (go_at_call 12; clear PC; refine (squintlaw18_beyond.calls kc A5 c5 ab _ _ HN5.out HC5.out HKC.out).mono ?_; rintro e w6 ⟨rfl, hd⟩; have n0_ := Aside0.mk (below_step HB.out hd.below); clear HB; have HB := n0_; clear n0_; have m_ := Aside0.mk (Kd.C_below HN5.out hd.below); clear HN5; have HN5 := m_; clear m_ hd)
            | ((with_reducible refine gate_dst (N := 18) rfl ?_); refine Kd.N_lit k24 (w0 := w) w.heap.size 24 ?hg (N' := 18) ?hd (xs := ([] : List S24)) (inner := []) (ok := fun _ => True) (okp := fun _ => True) ?hr ?hp (fun _ hk => hk) trivial HB.out HB.out.size (by simp) ?_; (case hd => rfl); (case hg => rfl); (case hr => first | (go_simp; done) | (go_simp; rfl)); (case hp => exact (Reps.none _ _)); intro v3 w3 ho hb hg_ hn_; clear hg_ hn_; clear HB; have HB := Aside0.mk hb; have HN := Aside0.mk ho; clear ho hb)
            | ((with_reducible refine gate_builtin (b := .append) (xs := #[.tmp 19, .tmp 20]) rfl ?_); at_builtin; refine Kd.N_append_rows k24 (w0 := w) w.heap.size rfl (.tmp 19) (.tmp 20) 29 24 (.agg #[(.int .i64 0), (.int .i64 0), (.int .i64 0), (.int .i64 0), (.int .i64 0), (.int .i64 0), (.int .i64 0), (.slice none 0 0)]) 80 rfl Tryd.underlying29 info24 rfl (by decide) (by decide) v3 [] a A0 a.length c0 (fun _ => True) (fun k => k < w.heap.size) rfl rfl HN.out (Kd.F_below (Kd.C_F heap24 HA.out) HB.out) (fun k hk => ⟨trivial, own_ne HN.out hk⟩) (fun _ _ => trivial) HB.out HB.out.size (by have := LM.out; (try simp only [List.length_nil]); omega) ?_; intro v4 w4 ho hb hg_ hn_; clear hg_ hn_; clear HB HN; have HB := Aside0.mk hb; rw [List.nil_append] at ho; have HN := Aside0.mk ho; clear ho hb)
            | ((with_reducible refine gate_builtin (b := .append) (xs := #[.tmp 22, .tmp 23]) rfl ?_); at_builtin; refine Kd.N_append_rows k24 (w0 := w) w.heap.size rfl (.tmp 22) (.tmp 23) 29 24 (.agg #[(.int .i64 0), (.int .i64 0), (.int .i64 0), (.int .i64 0), (.int .i64 0), (.int .i64 0), (.int .i64 0), (.slice none 0 0)]) 80 rfl Tryd.underlying29 info24 rfl (by decide) (by decide) v4 a b A1 b.length c1 (fun _ => True) (fun k => k < w.heap.size) rfl rfl HN.out (Kd.F_below (Kd.C_F heap24 HBB.out) HB.out) (fun k hk => ⟨trivial, own_ne HN.out hk⟩) (fun _ _ => trivial) HB.out HB.out.size (by have := LM.out; (try simp only [List.length_nil]); omega) ?_; intro v5 w5 ho hb hg_ hn_; clear hg_ hn_; clear HB HN; have HB := Aside0.mk hb; rw [← HAB.out] at ho; obtain ⟨A5, c5, rfl, h5, hC5⟩ := Kd.N_reads ho; have HN5 := Aside0.mk hC5; have HC5 := Aside0.mk h5; clear ho hb h5 hC5)
            | (go_at_call 9; refine (shown_true _ (HL.out.below HB.out)).mono ?_; rintro e w7 ⟨rfl, hb⟩; have n0_ := Aside0.mk (below_step HB.out hb); clear HB; have HB := n0_; clear n0_; have m_ := Aside0.mk (Kd.C_below HN5.out hb); clear HN5; have HN5 := m_; clear m_ hb)
            | (go_at_call 14; clear QA; refine (print_any A0 c0 a _ (Kd.C_below HA.out HB.out) (HL.out.below HB.out) RA.out SZ.out.1).mono ?_; rw [PRA.out]; rintro e w8 ⟨rfl, hb⟩; have n0_ := Aside0.mk (below_step HB.out hb); clear HB; have HB := n0_; clear n0_; have m_ := Aside0.mk (Kd.C_below HN5.out hb); clear HN5; have HN5 := m_; clear m_; clear hb)
            | (go_at_call 14; clear QB; refine (print_any A1 c1 b _ (Kd.C_below HBB.out HB.out) (HL.out.below HB.out) RB.out SZ.out.2.1).mono ?_; rw [PRB.out]; rintro e w9 ⟨rfl, hb⟩; have n0_ := Aside0.mk (below_step HB.out hb); clear HB; have HB := n0_; clear n0_; have m_ := Aside0.mk (Kd.C_below HN5.out hb); clear HN5; have HN5 := m_; clear m_; clear hb)
            | (go_at_call 14; clear QC; refine (print_any A5 c5 ab _ HN5.out (HL.out.below HB.out) RC.out SZ.out.2.2).mono ?_; rw [PRC.out]; rintro e w10 ⟨rfl, hb⟩; have n0_ := Aside0.mk (below_step HB.out hb); clear HB; have HB := n0_; clear n0_; clear hb))
          all_goals first | (go_returns; exact ⟨rfl, HB.out⟩) | (exfalso; have z1 := SZ.out.1; have z2 := SZ.out.2.1; omega)
      · rw [decide_eq_true gc] at hkc
        have HKC := Aside0.mk hkc
        clear hka hkb hkc ga gb gc l1 l2
        go_enter Tryd.func7, Tryd.ntmps7
        go_wp2_with (first
          | (go_at_call 12; clear PA; refine (squintlaw18_beyond.calls ka A0 c0 a _ _ (Kd.C_below HA.out HB.out) HC0.out HKA.out).mono ?_; rintro e w1 ⟨rfl, hd⟩; have n0_ := Aside0.mk (below_step HB.out hd.below); clear HB; have HB := n0_; clear n0_ hd)
          | (go_at_call 12; clear PB; refine (squintlaw18_beyond.calls kb A1 c1 b _ _ (Kd.C_below HBB.out HB.out) HC1.out HKB.out).mono ?_; rintro e w2 ⟨rfl, hd⟩; have n0_ := Aside0.mk (below_step HB.out hd.below); clear HB; have HB := n0_; clear n0_ hd)
          | (go_at_call 12; clear PC; refine (squintlaw18_beyond.calls kc A5 c5 ab _ _ HN5.out HC5.out HKC.out).mono ?_; rintro e w6 ⟨rfl, hd⟩; have n0_ := Aside0.mk (below_step HB.out hd.below); clear HB; have HB := n0_; clear n0_; have m_ := Aside0.mk (Kd.C_below HN5.out hd.below); clear HN5; have HN5 := m_; clear m_ hd)
          | ((with_reducible refine gate_dst (N := 18) rfl ?_); refine Kd.N_lit k24 (w0 := w) w.heap.size 24 ?hg (N' := 18) ?hd (xs := ([] : List S24)) (inner := []) (ok := fun _ => True) (okp := fun _ => True) ?hr ?hp (fun _ hk => hk) trivial HB.out HB.out.size (by simp) ?_; (case hd => rfl); (case hg => rfl); (case hr => first | (go_simp; done) | (go_simp; rfl)); (case hp => exact (Reps.none _ _)); intro v3 w3 ho hb hg_ hn_; clear hg_ hn_; clear HB; have HB := Aside0.mk hb; have HN := Aside0.mk ho; clear ho hb)
          | ((with_reducible refine gate_builtin (b := .append) (xs := #[.tmp 19, .tmp 20]) rfl ?_); at_builtin; refine Kd.N_append_rows k24 (w0 := w) w.heap.size rfl (.tmp 19) (.tmp 20) 29 24 (.agg #[(.int .i64 0), (.int .i64 0), (.int .i64 0), (.int .i64 0), (.int .i64 0), (.int .i64 0), (.int .i64 0), (.slice none 0 0)]) 80 rfl Tryd.underlying29 info24 rfl (by decide) (by decide) v3 [] a A0 a.length c0 (fun _ => True) (fun k => k < w.heap.size) rfl rfl HN.out (Kd.F_below (Kd.C_F heap24 HA.out) HB.out) (fun k hk => ⟨trivial, own_ne HN.out hk⟩) (fun _ _ => trivial) HB.out HB.out.size (by have := LM.out; (try simp only [List.length_nil]); omega) ?_; intro v4 w4 ho hb hg_ hn_; clear hg_ hn_; clear HB HN; have HB := Aside0.mk hb; rw [List.nil_append] at ho; have HN := Aside0.mk ho; clear ho hb)
          | ((with_reducible refine gate_builtin (b := .append) (xs := #[.tmp 22, .tmp 23]) rfl ?_); at_builtin; refine Kd.N_append_rows k24 (w0 := w) w.heap.size rfl (.tmp 22) (.tmp 23) 29 24 (.agg #[(.int .i64 0), (.int .i64 0), (.int .i64 0), (.int .i64 0), (.int .i64 0), (.int .i64 0), (.int .i64 0), (.slice none 0 0)]) 80 rfl Tryd.underlying29 info24 rfl (by decide) (by decide) v4 a b A1 b.length c1 (fun _ => True) (fun k => k < w.heap.size) rfl rfl HN.out (Kd.F_below (Kd.C_F heap24 HBB.out) HB.out) (fun k hk => ⟨trivial, own_ne HN.out hk⟩) (fun _ _ => trivial) HB.out HB.out.size (by have := LM.out; (try simp only [List.length_nil]); omega) ?_; intro v5 w5 ho hb hg_ hn_; clear hg_ hn_; clear HB HN; have HB := Aside0.mk hb; rw [← HAB.out] at ho; obtain ⟨A5, c5, rfl, h5, hC5⟩ := Kd.N_reads ho; have HN5 := Aside0.mk hC5; have HC5 := Aside0.mk h5; clear ho hb h5 hC5))
        go_returns
        exact ⟨rfl, HB.out⟩
    · rw [decide_eq_true gb] at hkb
      have HKB := Aside0.mk hkb
      clear hka hkb ga gb hab
      go_enter Tryd.func7, Tryd.ntmps7
      go_wp2_with (first
        | (go_at_call 12; clear PA; refine (squintlaw18_beyond.calls ka A0 c0 a _ _ (Kd.C_below HA.out HB.out) HC0.out HKA.out).mono ?_; rintro e w1 ⟨rfl, hd⟩; have n0_ := Aside0.mk (below_step HB.out hd.below); clear HB; have HB := n0_; clear n0_ hd)
        | (go_at_call 12; clear PB; refine (squintlaw18_beyond.calls kb A1 c1 b _ _ (Kd.C_below HBB.out HB.out) HC1.out HKB.out).mono ?_; rintro e w2 ⟨rfl, hd⟩; have n0_ := Aside0.mk (below_step HB.out hd.below); clear HB; have HB := n0_; clear n0_ hd))
      go_returns
      exact ⟨rfl, HB.out⟩
  · rw [decide_eq_true ga] at hka
    have HKA := Aside0.mk hka
    clear hka hkb ga hab
    go_enter Tryd.func7, Tryd.ntmps7
    go_wp2_with (first
      | (go_at_call 12; clear PA; refine (squintlaw18_beyond.calls ka A0 c0 a _ _ (Kd.C_below HA.out HB.out) HC0.out HKA.out).mono ?_; rintro e w1 ⟨rfl, hd⟩; have n0_ := Aside0.mk (below_step HB.out hd.below); clear HB; have HB := n0_; clear n0_ hd))
    go_returns
    exact ⟨rfl, HB.out⟩
end Go.Proofs.YtiapfhlipoomaaaDoor.Given
