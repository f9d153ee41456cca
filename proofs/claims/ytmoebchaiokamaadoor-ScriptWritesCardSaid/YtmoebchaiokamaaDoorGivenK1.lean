/- script.reads at a line that begins with 'step'. -/
import Derived.Test.YtmoebchaiokamaaDoorGivenK0
namespace Go.Proofs.YtmoebchaiokamaaDoor.Given
open Go.RowKit Go.Proofs.YtmoebchaiokamaaDoorW.PrintWords Go.Proofs.YtmoebchaiokamaaDoorW.PrintLast Go.Proofs.YtmoebchaiokamaaDoorW.PrintMore Go.Proofs.YtmoebchaiokamaaDoor.Print
set_option linter.unusedVariables false
set_option linter.unusedSimpArgs false
set_option maxRecDepth 100000 in
set_option maxHeartbeats 8000000 in
theorem reads_many_step (i : Nat) (hi : 2 ≤ i) (hi2 : i ≤ 4611686018427387904) (g : Nat) (s : Scr) (v : Value) (l : ByteArray) (w w0 : World) (t : ByteArray) (r : List ByteArray)
    (hL : LW w0) (hB0 : Below w0.heap.size w0 w) (hg0 : w0.heap.size ≤ g) (hg : w.heap[g]? = some (.cells (scC s.lim s.reap v) 26 (0, 0))) (hp : Kd.R k29 29 w (g + 1) (fun _ => True) v s.picks) (hs : l.size < 4294967281) (hw : wordsL l = t :: r) (hq : t.toList = wStep) (hm : 4096 ≤ s.picks.length) :
    Calls Tryd.prog 19 #[.pointer (some ⟨g, 0, none⟩), .int .i64 i, .string l] w (ReadsSays w g (readsW i s t.toList r)) := by
  have HR : Aside0 (readsW i s t.toList r = .error 172) := ⟨by unfold readsW; rw [if_neg (by omega), if_neg (by omega), hq]; unfold pickW; rw [show kindW wStep = some (1, 1) from rfl]; exact if_pos hm⟩
  generalize readsW i s t.toList r = rr at HR ⊢
  have hq0 : (t.toList == [115, 116, 101, 112]) = true := beq_iff_eq.2 hq
  clear hq
  have hi0 : ((i : Int) == 0) = false := beq_eq_false_iff_ne.2 (by omega)
  have hi1 : ((i : Int) == 1) = false := beq_eq_false_iff_ne.2 (by omega)
  have hi3 : decide ((i : Int) < 2) = false := decide_eq_false (by omega)
  have hm2 : decide ((s.picks.length : Int) ≥ 4096) = true := decide_eq_true (by omega)
  have hm3 : decide (4096 ≤ s.picks.length) = true := decide_eq_true hm
  have HL := Aside0.mk hL
  have HB0 := Aside0.mk hB0
  have HG0 := Aside0.mk hg0
  have BG := Aside0.mk hg
  have HS := Aside0.mk hs
  have HW := Aside0.mk hw
  have HP := Aside0.mk hp
  have HN : Aside0 (Lib.countB l space = r.length) := ⟨by have := words_length l _ rfl; rw [hw, List.length_cons] at this; omega⟩
  have HRL : Aside0 (r.length ≤ 4294967296) := ⟨by have := count_le l; have := HN.out; omega⟩
  have HSZ : Aside0 (∀ t ∈ r, t.size ≤ 281474976710656) := ⟨fun u hu => by have := word_size l u (by rw [hw]; exact List.mem_cons_of_mem _ hu); omega⟩
  have HLW : Aside0 (LW w) := ⟨HL.out.below HB0.out⟩
  have GW := Aside0.mk (blk_lt hg)
  obtain ⟨bw, hbw⟩ : ∃ k, k = w.heap.size := ⟨_, rfl⟩
  have HBW := Aside0.mk hbw
  obtain ⟨A1, hsl, ht⟩ := words_cut bw t r
  have HT := Aside0.mk ht
  clear hL hB0 hg0 hg hs hw hbw ht hp
  go_enter Tryd.func19, Tryd.ntmps19
  go_upto_region 3 with (first
    | (go_at_call 24; refine (split_any l r.length HN.out _ HS.out HLW.out).mono ?_; rw [← HBW.out]; rintro e w1 ⟨rfl, hbk, hb⟩; rw [HW.out] at hbk; have BW := Aside0.mk hbk; have HB := Aside0.mk hb; clear hbk hb)
    | (go_at_call 25; refine (taker_any _ _ _ _).mono ?_; rintro e w2 ⟨rfl, hw2⟩; have x0 : w2.cell? ⟨bw, 0, none⟩ = some (.string t) := (by rw [hw2]; exact pw_cell_below (bel1 w1 _) ((blk_cell BW.out 0).trans rfl)); obtain ⟨bx, hbx⟩ : ∃ k, k = w1.heap.size := ⟨_, rfl⟩; rw [← hbx]; have BX : Aside0 (w2.heap[bx]? = some (.cells #[.slice A1 r.length r.length] 52 (0, 0))) := (by rw [hw2, hbx]; exact ⟨heap_alloc_new w1 _⟩); have HB2 : Aside0 (Below w1.heap.size w1 w2) := (by rw [hw2]; exact ⟨bel1 w1 _⟩); have HBX : Aside0 (bx = w1.heap.size) := ⟨hbx⟩; clear hw2 hbx))
  have HBB : Aside0 (Below w.heap.size w w2) := ⟨by have h1 := HB.out; rw [HBW.out] at h1; exact below_step h1 HB2.out⟩
  have BG2 := Aside0.mk (blk_below BG.out HBB.out)
  have BW2 := Aside0.mk (blk_below BW.out HB2.out)
  have WSI := Aside0.mk ((HT.out.1 w2) BW2.out)
  have HGX : Aside0 (g < bx ∧ g < bw ∧ bx < w2.heap.size) := ⟨by have h1 := GW.out; have h2 := HBW.out; have h3 := HBX.out; have h4 := HB.out.size; have h5 := blk_lt BW.out; have h6 := blk_lt BX.out; omega⟩
  have HP2 := Aside0.mk (Kd.R_below HP.out HBB.out)
  obtain ⟨Ap, cp, hv⟩ := Kd.R_slice HP2.out
  subst hv
  have BP0 := Aside0.mk (heap_alloc_new w2 (.cells #[.int .i64 0, .int .i64 0, .int .i64 0] 29))
  have n1_ := Aside0.mk (blk_below BG2.out (bel1 w2 (.cells #[.int .i64 0, .int .i64 0, .int .i64 0] 29)))
  have n2_ := Aside0.mk (blk_below BX.out (bel1 w2 (.cells #[.int .i64 0, .int .i64 0, .int .i64 0] 29)))
  have n3_ := Aside0.mk (WSI.out.below (bel1 w2 (.cells #[.int .i64 0, .int .i64 0, .int .i64 0] 29)))
  have n4_ := Aside0.mk (below_step HBB.out (bel1 w2 (.cells #[.int .i64 0, .int .i64 0, .int .i64 0] 29)))
  have n5_ := Aside0.mk (Kd.R_mono (Kd.R_below (Kd.R_bound HP2.out) (bel1 w2 (.cells #[.int .i64 0, .int .i64 0, .int .i64 0] 29))) (fun k hk => (hk.2.2.1 : k < w2.heap.size)))
  have n6_ : Aside0 (g < w2.heap.size ∧ bx < w2.heap.size ∧ bw < w2.heap.size) := ⟨by have := HGX.out; have := blk_lt BW2.out; omega⟩
  have n7_ : Aside0 (w2.heap.size < (w2.alloc (.cells #[.int .i64 0, .int .i64 0, .int .i64 0] 29)).heap.size) := ⟨by rw [size_alloc]; omega⟩
  have q0 : (w2.alloc (.cells #[.int .i64 0, .int .i64 0, .int .i64 0] 29)).cell? ⟨bw, 0, none⟩ = some (.string t) := pw_cell_below (bel1 _ _) x0
  have q8 : (w2.alloc (.cells #[.int .i64 0, .int .i64 0, .int .i64 0] 29)).cell? ⟨g, 8, none⟩ = some (.slice Ap s.picks.length cp) := (blk_cell n1_.out 8).trans rfl
  have HWSZ : Aside0 (w.heap.size ≤ w2.heap.size) := ⟨HBB.out.size⟩
  go_upto_region 13 with (fail)
  generalize w2.heap.size = gp at BP0 n5_ n6_ n7_ HWSZ ⊢
  generalize w2.alloc (.cells #[.int .i64 0, .int .i64 0, .int .i64 0] 29) = w3 at BP0 n1_ n2_ n3_ n4_ n5_ n7_ q0 q8 ⊢
  clear BG2 BX WSI HBB HP2 HB HB2 BW BW2 x0
  go_wp2_with ((go_at_call 34; refine (take_any gp 29 #[.int .i64 0, .int .i64 0, .int .i64 0] [1] (some ⟨w3.heap.size, 0, none⟩) 1 bx A1 r.length r (w3.alloc (.cells #[.pointer (some ⟨gp, 1, none⟩)] 68)) w0 HL.out (below_then HB0.out HB0.out.size (below_step n4_.out (bel1 w3 (.cells #[.pointer (some ⟨gp, 1, none⟩)] 68)))) (by have := n6_.out; have := HG0.out; omega) (blk_below BP0.out (bel1 w3 (.cells #[.pointer (some ⟨gp, 1, none⟩)] 68))) (fun o ho => by simp only [List.mem_cons, List.not_mem_nil, or_false] at ho; subst ho; exact ⟨_, rfl⟩) (by decide) ?aP (blk_below n2_.out (bel1 w3 (.cells #[.pointer (some ⟨gp, 1, none⟩)] 68))) (by have := n6_.out; omega) (n3_.out.below (bel1 w3 (.cells #[.pointer (some ⟨gp, 1, none⟩)] 68))) (fun ad hA => by rw [HT.out.2 ad hA]; have := n6_.out; omega) HRL.out HSZ.out).mono ?_; (case aP => exact ptr_row _ gp (by have := n7_.out; omega) [1] (heap_alloc_new w3 _)); rintro e w5 htk; have HTK := Aside0.mk htk; clear htk; obtain ⟨ev, hev⟩ := HTK.out.ret; subst hev; obtain ⟨ns0, hns⟩ := HTK.out.blk; obtain ⟨p1, p2, hlay⟩ := lay1 ns0; rw [hlay] at hns; clear hlay; have BP5 := Aside0.mk hns; have y0 : w5.cell? ⟨gp, 0, none⟩ = some (.int .i64 0) := (blk_cell hns 0).trans rfl; have y1 : w5.frozen? ⟨gp, 0, none⟩ = false := blk_frozen hns 0; have FR5 : Aside0 (Fr w3.heap.size gp w3 w5) := ⟨(Fr.of_below (bel1 w3 _)).trans (HTK.out.fr.mono (bel1 w3 _).size)⟩; clear hns))
  go_ret
  rw [HR.out]
  have hs0 : g < w3.heap.size := by have := n6_.out; have := n7_.out; omega
  have e0 : (w5.setCell ⟨gp, 0, none⟩ (.int .i64 1)).heap.size = w5.heap.size := by simp [World.setCell]
  have h0 := heap_alloc_new (w5.setCell ⟨gp, 0, none⟩ (.int .i64 1)) (.cells #[.int .i64 172] 62)
  rw [e0] at h0
  have h5 := FR5.out.size
  have hB := below_setG ((n4_.out.mono (Nat.le_of_lt GW.out)).trans (FR5.out.below (Nat.le_of_lt hs0) (Nat.le_of_lt n6_.out.1))) (Nat.le_of_lt n6_.out.1) 0 (.int .i64 1)
  exact ⟨⟨_, rfl, h0, by omega⟩, hB.trans ((bel1 _ _).mono (by rw [e0]; omega))⟩
set_option maxRecDepth 100000 in
set_option maxHeartbeats 8000000 in
theorem reads_ok_step (i : Nat) (hi : 2 ≤ i) (hi2 : i ≤ 4611686018427387904) (g : Nat) (s : Scr) (v : Value) (l : ByteArray) (w w0 : World) (t : ByteArray) (r : List ByteArray)
    (hL : LW w0) (hB0 : Below w0.heap.size w0 w) (hg0 : w0.heap.size ≤ g) (hg : w.heap[g]? = some (.cells (scC s.lim s.reap v) 26 (0, 0))) (hp : Kd.R k29 29 w (g + 1) (fun _ => True) v s.picks) (hs : l.size < 4294967281) (hw : wordsL l = t :: r) (hq : t.toList = wStep) (hm : ¬ 4096 ≤ s.picks.length) (ns : List Int) (htk : takeOf 1 r = some ns) :
    Calls Tryd.prog 19 #[.pointer (some ⟨g, 0, none⟩), .int .i64 i, .string l] w (ReadsSays w g (readsW i s t.toList r)) := by
  have HR : Aside0 (readsW i s t.toList r = .ok ⟨s.lim, s.reap, s.picks ++ [⟨1, ns.getD 0 0, ns.getD 1 0⟩]⟩) := ⟨by unfold readsW; rw [if_neg (by omega), if_neg (by omega), hq]; unfold pickW; rw [show kindW wStep = some (1, 1) from rfl]; dsimp only; rw [if_neg hm, htk]; first | done | rfl⟩
  generalize readsW i s t.toList r = rr at HR ⊢
  have hq0 : (t.toList == [115, 116, 101, 112]) = true := beq_iff_eq.2 hq
  have HTO := Aside0.mk htk
  have HM := Aside0.mk hm
  clear hq htk
  have hi0 : ((i : Int) == 0) = false := beq_eq_false_iff_ne.2 (by omega)
  have hi1 : ((i : Int) == 1) = false := beq_eq_false_iff_ne.2 (by omega)
  have hi3 : decide ((i : Int) < 2) = false := decide_eq_false (by omega)
  have hm2 : decide ((s.picks.length : Int) ≥ 4096) = false := decide_eq_false (by omega)
  have hm3 : decide (4096 ≤ s.picks.length) = false := decide_eq_false hm
  clear hm
  have HL := Aside0.mk hL
  have HB0 := Aside0.mk hB0
  have HG0 := Aside0.mk hg0
  have BG := Aside0.mk hg
  have HS := Aside0.mk hs
  have HW := Aside0.mk hw
  have HP := Aside0.mk hp
  have HN : Aside0 (Lib.countB l space = r.length) := ⟨by have := words_length l _ rfl; rw [hw, List.length_cons] at this; omega⟩
  have HRL : Aside0 (r.length ≤ 4294967296) := ⟨by have := count_le l; have := HN.out; omega⟩
  have HSZ : Aside0 (∀ t ∈ r, t.size ≤ 281474976710656) := ⟨fun u hu => by have := word_size l u (by rw [hw]; exact List.mem_cons_of_mem _ hu); omega⟩
  have HLW : Aside0 (LW w) := ⟨HL.out.below HB0.out⟩
  have GW := Aside0.mk (blk_lt hg)
  obtain ⟨bw, hbw⟩ : ∃ k, k = w.heap.size := ⟨_, rfl⟩
  have HBW := Aside0.mk hbw
  obtain ⟨A1, hsl, ht⟩ := words_cut bw t r
  have HT := Aside0.mk ht
  clear hL hB0 hg0 hg hs hw hbw ht hp
  go_enter Tryd.func19, Tryd.ntmps19
  go_upto_region 3 with (first
    | (go_at_call 24; refine (split_any l r.length HN.out _ HS.out HLW.out).mono ?_; rw [← HBW.out]; rintro e w1 ⟨rfl, hbk, hb⟩; rw [HW.out] at hbk; have BW := Aside0.mk hbk; have HB := Aside0.mk hb; clear hbk hb)
    | (go_at_call 25; refine (taker_any _ _ _ _).mono ?_; rintro e w2 ⟨rfl, hw2⟩; have x0 : w2.cell? ⟨bw, 0, none⟩ = some (.string t) := (by rw [hw2]; exact pw_cell_below (bel1 w1 _) ((blk_cell BW.out 0).trans rfl)); obtain ⟨bx, hbx⟩ : ∃ k, k = w1.heap.size := ⟨_, rfl⟩; rw [← hbx]; have BX : Aside0 (w2.heap[bx]? = some (.cells #[.slice A1 r.length r.length] 52 (0, 0))) := (by rw [hw2, hbx]; exact ⟨heap_alloc_new w1 _⟩); have HB2 : Aside0 (Below w1.heap.size w1 w2) := (by rw [hw2]; exact ⟨bel1 w1 _⟩); have HBX : Aside0 (bx = w1.heap.size) := ⟨hbx⟩; clear hw2 hbx))
  have HBB : Aside0 (Below w.heap.size w w2) := ⟨by have h1 := HB.out; rw [HBW.out] at h1; exact below_step h1 HB2.out⟩
  have BG2 := Aside0.mk (blk_below BG.out HBB.out)
  have BW2 := Aside0.mk (blk_below BW.out HB2.out)
  have WSI := Aside0.mk ((HT.out.1 w2) BW2.out)
  have HGX : Aside0 (g < bx ∧ g < bw ∧ bx < w2.heap.size) := ⟨by have h1 := GW.out; have h2 := HBW.out; have h3 := HBX.out; have h4 := HB.out.size; have h5 := blk_lt BW.out; have h6 := blk_lt BX.out; omega⟩
  have HP2 := Aside0.mk (Kd.R_below HP.out HBB.out)
  obtain ⟨Ap, cp, hv⟩ := Kd.R_slice HP2.out
  subst hv
  have BP0 := Aside0.mk (heap_alloc_new w2 (.cells #[.int .i64 0, .int .i64 0, .int .i64 0] 29))
  have n1_ := Aside0.mk (blk_below BG2.out (bel1 w2 (.cells #[.int .i64 0, .int .i64 0, .int .i64 0] 29)))
  have n2_ := Aside0.mk (blk_below BX.out (bel1 w2 (.cells #[.int .i64 0, .int .i64 0, .int .i64 0] 29)))
  have n3_ := Aside0.mk (WSI.out.below (bel1 w2 (.cells #[.int .i64 0, .int .i64 0, .int .i64 0] 29)))
  have n4_ := Aside0.mk (below_step HBB.out (bel1 w2 (.cells #[.int .i64 0, .int .i64 0, .int .i64 0] 29)))
  have n5_ := Aside0.mk (Kd.R_mono (Kd.R_below (Kd.R_bound HP2.out) (bel1 w2 (.cells #[.int .i64 0, .int .i64 0, .int .i64 0] 29))) (fun k hk => (hk.2.2.1 : k < w2.heap.size)))
  have n6_ : Aside0 (g < w2.heap.size ∧ bx < w2.heap.size ∧ bw < w2.heap.size) := ⟨by have := HGX.out; have := blk_lt BW2.out; omega⟩
  have n7_ : Aside0 (w2.heap.size < (w2.alloc (.cells #[.int .i64 0, .int .i64 0, .int .i64 0] 29)).heap.size) := ⟨by rw [size_alloc]; omega⟩
  have q0 : (w2.alloc (.cells #[.int .i64 0, .int .i64 0, .int .i64 0] 29)).cell? ⟨bw, 0, none⟩ = some (.string t) := pw_cell_below (bel1 _ _) x0
  have q8 : (w2.alloc (.cells #[.int .i64 0, .int .i64 0, .int .i64 0] 29)).cell? ⟨g, 8, none⟩ = some (.slice Ap s.picks.length cp) := (blk_cell n1_.out 8).trans rfl
  have HWSZ : Aside0 (w.heap.size ≤ w2.heap.size) := ⟨HBB.out.size⟩
  go_upto_region 13 with (fail)
  generalize w2.heap.size = gp at BP0 n5_ n6_ n7_ HWSZ ⊢
  generalize w2.alloc (.cells #[.int .i64 0, .int .i64 0, .int .i64 0] 29) = w3 at BP0 n1_ n2_ n3_ n4_ n5_ n7_ q0 q8 ⊢
  clear BG2 BX WSI HBB HP2 HB HB2 BW BW2 x0
  go_upto_region 26 with ((go_at_call 34; refine (take_any gp 29 #[.int .i64 0, .int .i64 0, .int .i64 0] [1] (some ⟨w3.heap.size, 0, none⟩) 1 bx A1 r.length r (w3.alloc (.cells #[.pointer (some ⟨gp, 1, none⟩)] 68)) w0 HL.out (below_then HB0.out HB0.out.size (below_step n4_.out (bel1 w3 (.cells #[.pointer (some ⟨gp, 1, none⟩)] 68)))) (by have := n6_.out; have := HG0.out; omega) (blk_below BP0.out (bel1 w3 (.cells #[.pointer (some ⟨gp, 1, none⟩)] 68))) (fun o ho => by simp only [List.mem_cons, List.not_mem_nil, or_false] at ho; subst ho; exact ⟨_, rfl⟩) (by decide) ?aP (blk_below n2_.out (bel1 w3 (.cells #[.pointer (some ⟨gp, 1, none⟩)] 68))) (by have := n6_.out; omega) (n3_.out.below (bel1 w3 (.cells #[.pointer (some ⟨gp, 1, none⟩)] 68))) (fun ad hA => by rw [HT.out.2 ad hA]; have := n6_.out; omega) HRL.out HSZ.out).mono ?_; (case aP => exact ptr_row _ gp (by have := n7_.out; omega) [1] (heap_alloc_new w3 _)); rintro e w5 htk; have HTK := Aside0.mk htk; clear htk; obtain ⟨ev, hev⟩ := HTK.out.ret; subst hev; obtain ⟨ns0, hns⟩ := HTK.out.blk; obtain ⟨p1, p2, hlay⟩ := lay1 ns0; rw [hlay] at hns; clear hlay; have BP5 := Aside0.mk hns; have y0 : w5.cell? ⟨gp, 0, none⟩ = some (.int .i64 0) := (blk_cell hns 0).trans rfl; have y1 : w5.frozen? ⟨gp, 0, none⟩ = false := blk_frozen hns 0; have FR5 : Aside0 (Fr w3.heap.size gp w3 w5) := ⟨(Fr.of_below (bel1 w3 _)).trans (HTK.out.fr.mono (bel1 w3 _).size)⟩; clear hns))
  obtain ⟨pv, hpv⟩ : ∃ x : S29, x = ⟨1, p1, p2⟩ := ⟨_, rfl⟩
  have HPV := Aside0.mk hpv
  have m1_ : Aside0 ((w5.setCell ⟨gp, 0, none⟩ (.int .i64 1)).heap[gp]? = some (.cells #[.int .i64 1, .int .i64 p1, .int .i64 p2] 29 (0, 0))) := ⟨blk_put BP5.out 0 _ rfl⟩
  have FR6 : Aside0 (Fr w3.heap.size gp w3 (w5.setCell ⟨gp, 0, none⟩ (.int .i64 1))) := ⟨fr_set FR5.out 0 _⟩
  have m2_ : Aside0 ((w5.setCell ⟨gp, 0, none⟩ (.int .i64 1)).heap[g]? = some (.cells (scC s.lim s.reap (.slice Ap s.picks.length cp)) 26 (0, 0))) := ⟨FR6.out.blk n1_.out (Nat.le_refl _) (by have := n6_.out; omega)⟩
  have m3_ : Aside0 (Kd.R k29 29 (w5.setCell ⟨gp, 0, none⟩ (.int .i64 1)) (g + 1) (fun k => k < gp) (.slice Ap s.picks.length cp) s.picks) := ⟨Kd.R_step n5_.out (fun k hk hlt => FR6.out.block k hlt (by omega))⟩
  have m4_ : Aside0 (Below (g + 1) w (w5.setCell ⟨gp, 0, none⟩ (.int .i64 1))) := ⟨(n4_.out.mono GW.out).trans (FR6.out.below (by have := n6_.out; have := n7_.out; omega) (by have := n6_.out; omega))⟩
  have hevn : ev = .nilIface := by
    have h := HTK.out
    unfold TakeSays at h
    rw [show ([1] : List Nat).length = 1 from rfl, HTO.out] at h
    injection h.1
  subst hevn
  have HPQ : Aside0 (pv = ⟨1, ns.getD 0 0, ns.getD 1 0⟩) := ⟨by
    have h := HTK.out
    unfold TakeSays at h
    rw [show ([1] : List Nat).length = 1 from rfl, HTO.out] at h
    have hl := take_len HTO.out
    have h2 := h.2.1
    rw [BP5.out] at h2
    rw [HPV.out]
    match ns, hl, h2 with
    | [x], _, h2 =>
      injection h2 with h2
      injection h2 with h2 _ _
      have e1 := congrArg (fun q : Array Value => q[1]?) h2
      have e2 := congrArg (fun q : Array Value => q[2]?) h2
      simp [layAll] at e1 e2
      simp [e1, e2]⟩
  generalize w5.setCell ⟨gp, 0, none⟩ (.int .i64 1) = w6 at m1_ m2_ m3_ m4_ ⊢
  clear n1_ n2_ n3_ n4_ n5_ n7_ q0 q8 y0 y1 BP0 BP5 FR5 FR6 HTK hpv
  refine start_ (n := 11) (S := fun w' => w'.cell? ⟨g, 8, none⟩ = some (.slice Ap s.picks.length cp) ∧ w'.cell? ⟨gp, 0, none⟩ = some (.int .i64 1) ∧ w'.cell? ⟨gp, 1, none⟩ = some (.int .i64 p1) ∧ w'.cell? ⟨gp, 2, none⟩ = some (.int .i64 p2)) (ds := [10]) #[false, false, false, false, false, false, false, false, false, false, false] (by kernel_rfl) rfl rfl ⟨(blk_cell (blk_drew m2_.out |> Aside0.mk).out 8).trans rfl, (blk_cell (blk_drew m1_.out |> Aside0.mk).out 0).trans rfl, (blk_cell (blk_drew m1_.out |> Aside0.mk).out 1).trans rfl, (blk_cell (blk_drew m1_.out |> Aside0.mk).out 2).trans rfl⟩ (fun hHeld => ?_)
  refine with_tabW q26tab q26bits (fun HT_ HW_ => ?_)
  have o1_ := Aside0.mk (blk_drew m1_.out)
  have o2_ := Aside0.mk (blk_drew m2_.out)
  have o3_ := Aside0.mk (Kd.R_drew m3_.out)
  have o4_ := Aside0.mk (below_drew1 m4_.out)
  generalize w6.drew = w7 at o1_ o2_ o3_ o4_ hHeld ⊢
  clear m1_ m2_ m3_ m4_
  refine pure_ (i := 0) (N := some 123) (v := ?_) (a' := ?_) #[true, false, false, false, false, false, false, false, false, false, false] rfl rfl (any_of HT_.out (by kernel_rfl)) (fun _ _ _ h => h) (Or.inl ⟨by rfl, ?_⟩) ?_ ?_
  rotate_left
  · intro w'
    go_simp
    with_reducible rfl
  rotate_left
  · simp only [Act.put, List.setIfInBounds_toArray, List.set_cons_zero, List.set_cons_succ, i64_w, i32_w]
    rfl
  refine pure_ (i := 1) (N := some 124) (v := ?_) (a' := ?_) #[true, true, false, false, false, false, false, false, false, false, false] rfl rfl (any_of HT_.out (by kernel_rfl)) (fun _ _ _ h => h) (Or.inl ⟨by rfl, ?_⟩) ?_ ?_
  rotate_left
  · intro w'
    go_simp
    with_reducible rfl
  rotate_left
  · simp only [Act.put, List.setIfInBounds_toArray, List.set_cons_zero, List.set_cons_succ, i64_w, i32_w]
    rfl
  refine pure_ (i := 2) (N := some 125) (v := ?_) (a' := ?_) #[true, true, true, false, false, false, false, false, false, false, false] rfl rfl (any_of HT_.out (by kernel_rfl)) (fun _ _ _ h => h) (Or.inl ⟨by rfl, ?_⟩) ?_ ?_
  rotate_left
  · intro w'
    go_simp
    with_reducible rfl
  rotate_left
  · simp only [Act.put, List.setIfInBounds_toArray, List.set_cons_zero, List.set_cons_succ, i64_w, i32_w]
    rfl
  refine pure_ (i := 3) (N := some 126) (v := ?_) (a' := ?_) #[true, true, true, true, false, false, false, false, false, false, false] rfl rfl (any_of HT_.out (by kernel_rfl)) (fun _ _ _ h => h) (Or.inl ⟨by rfl, ?_⟩) ?_ ?_
  rotate_left
  · intro w'
    go_simp
    with_reducible rfl
  rotate_left
  · simp only [Act.put, List.setIfInBounds_toArray, List.set_cons_zero, List.set_cons_succ, i64_w, i32_w]
    rfl
  refine take_ (i := 4) (N := some 127) (v := ?_) (a' := ?_) #[true, true, true, true, true, false, false, false, false, false, false] rfl rfl (take_ofW HT_.out HW_.out (by kernel_rfl)) (fun _ _ _ h => h) (Or.inl ⟨by rfl, ?_⟩) hHeld ?_ ?_
  rotate_left
  · rintro w' ⟨s0, s1, s2, s3⟩
    go_simp
    with_reducible rfl
  rotate_left
  · simp only [Act.put, List.setIfInBounds_toArray, List.set_cons_zero, List.set_cons_succ, i64_w, i32_w]
    rfl
  refine take_ (i := 5) (N := some 128) (v := ?_) (a' := ?_) #[true, true, true, true, true, true, false, false, false, false, false] rfl rfl (take_ofW HT_.out HW_.out (by kernel_rfl)) (fun _ _ _ h => h) (Or.inl ⟨by rfl, ?_⟩) hHeld ?_ ?_
  rotate_left
  · rintro w' ⟨s0, s1, s2, s3⟩
    go_simp
    with_reducible rfl
  rotate_left
  · simp only [Act.put, List.setIfInBounds_toArray, List.set_cons_zero, List.set_cons_succ, i64_w, i32_w]
    rfl
  refine one_ (i := 6) (N := some 129) #[true, true, true, true, true, true, true, false, false, false, false] rfl rfl (one_of HT_.out (by kernel_rfl)) (by decide) (fun K hK => ?_)
  refine event_step (v := .slice (some ⟨w7.heap.size, 0, none⟩) 1 1) (w1 := w7.alloc (.cells #[.int .i64 1, .int .i64 p1, .int .i64 p2] 29)) (by rfl) (by first | (go_simp; done) | (go_simp; rfl)) ?_
  refine hK.out _ _ ⟨(blk_cell (blk_below o2_.out (bel1 w7 _)) 8).trans rfl, (blk_cell (blk_below o1_.out (bel1 w7 _)) 0).trans rfl, (blk_cell (blk_below o1_.out (bel1 w7 _)) 1).trans rfl, (blk_cell (blk_below o1_.out (bel1 w7 _)) 2).trans rfl⟩ (fun hHeld => ?_)
  clear hK K
  refine norm_ (a' := ?_) ?_ ?_
  rotate_left
  · show Act.put _ (some 129) _ = _
    simp only [Act.put, List.setIfInBounds_toArray, List.set_cons_zero, List.set_cons_succ, i64_w, i32_w]
    rfl
  refine one_ (i := 7) (N := some 130) #[true, true, true, true, true, true, true, true, false, false, false] rfl rfl (one_of HT_.out (by kernel_rfl)) (by decide) (fun K hK => ?_)
  refine Kd.R_append_step k29 (w0 := w) (g + 1) (by rfl) (.tmp 127) (.tmp 129) 24 29 (.agg #[.int .i64 0, .int .i64 0, .int .i64 0]) 24 (by rfl) Tryd.underlying24 info29 (by rfl) (by decide) (by decide) (.slice Ap s.picks.length cp) s.picks ⟨1, p1, p2⟩ [.int .i64 1, .int .i64 p1, .int .i64 p2] (fun _ => True) (fun _ => False) (by rfl) (by rfl) (k29_mkM _ _ _ _) (fun _ h => h.elim) (fun _ _ => trivial) (Kd.R_mono o3_.out (fun _ _ => trivial)) o4_.out (Nat.le_trans GW.out o4_.out.size) ?aL ?_
  case aL => have := HM.out; omega
  intro v1 w8 ho hb hg1 hat
  have HO8 := Aside0.mk ho
  have HB8 := Aside0.mk hb
  have r1_ := Aside0.mk (blk_grown (blk_below o2_.out (Below.refl _ w7)) hg1 (Kd.R_ne o3_.out o2_.out (by decide)))
  have r2_ := Aside0.mk (blk_grown (blk_below o1_.out (Below.refl _ w7)) hg1 (fun he => absurd (o3_.out.1 gp he.symm) (Nat.lt_irrefl _)))
  clear ho hb hg1 hat o1_ o2_ o3_ o4_
  refine hK.out _ _ ⟨(blk_cell r1_.out 8).trans rfl, (blk_cell r2_.out 0).trans rfl, (blk_cell r2_.out 1).trans rfl, (blk_cell r2_.out 2).trans rfl⟩ (fun hHeld => ?_)
  clear hK K
  refine norm_ (a' := ?_) ?_ ?_
  rotate_left
  · show Act.put _ (some 130) _ = _
    simp only [Act.put, List.setIfInBounds_toArray, List.set_cons_zero, List.set_cons_succ, i64_w, i32_w]
    rfl
  refine pure_ (i := 8) (N := some 131) (v := ?_) (a' := ?_) #[true, true, true, true, true, true, true, true, true, false, false] rfl rfl (any_of HT_.out (by kernel_rfl)) (fun _ _ _ h => h) (Or.inl ⟨by rfl, ?_⟩) ?_ ?_
  rotate_left
  · intro w'
    go_simp
    with_reducible rfl
  rotate_left
  · simp only [Act.put, List.setIfInBounds_toArray, List.set_cons_zero, List.set_cons_succ, i64_w, i32_w]
    rfl
  refine pure_ (i := 9) (N := some 132) (v := ?_) (a' := ?_) #[true, true, true, true, true, true, true, true, true, true, false] rfl rfl (any_of HT_.out (by kernel_rfl)) (fun _ _ _ h => h) (Or.inl ⟨by rfl, ?_⟩) ?_ ?_
  rotate_left
  · intro w'
    go_simp
    with_reducible rfl
  rotate_left
  · simp only [Act.put, List.setIfInBounds_toArray, List.set_cons_zero, List.set_cons_succ, i64_w, i32_w]
    rfl
  have z0 := blk_frozen r1_.out 8
  have z1 : w8.cell? ⟨g, 8, none⟩ = some (.slice Ap s.picks.length cp) := (blk_cell r1_.out 8).trans rfl
  obtain ⟨Aq, cq, hv1⟩ := Kd.R_slice HO8.out
  subst hv1
  refine last_ (i := 10) (N := none) #[true, true, true, true, true, true, true, true, true, true, true] rfl rfl (one_of HT_.out (by kernel_rfl)) (by decide) (fun K hK => ?_)
  refine store_step (w1 := w8.setCell ⟨g, 8, none⟩ (.slice Aq (s.picks ++ [(⟨1, p1, p2⟩ : S29)]).length cq)) (by rfl) rfl (by first | (go_simp; done) | (go_simp; rfl)) ?_
  refine hK.out _ _ ?_
  clear hK K
  refine done_ (done_of HT_.out (by kernel_rfl)) ?_
  have c1 := blk_put r1_.out 8 (.slice Aq (s.picks ++ [(⟨1, p1, p2⟩ : S29)]).length cq) (cs' := scC s.lim s.reap (.slice Aq (s.picks ++ [(⟨1, p1, p2⟩ : S29)]).length cq)) rfl
  have c2 := Kd.R_mono (Kd.R_far (Kd.R_bound HO8.out) (p := ⟨g, 8, none⟩) (fun k hk => by have := hk.2.1; show k ≠ g; omega) (.slice Aq (s.picks ++ [(⟨1, p1, p2⟩ : S29)]).length cq)) (ok' := fun _ => True) (fun _ _ => trivial)
  have c3 := below_setG (HB8.out.mono (Nat.le_succ g)) (Nat.le_refl g) 8 (.slice Aq (s.picks ++ [(⟨1, p1, p2⟩ : S29)]).length cq)
  have C1 := Aside0.mk c1
  have C2 := Aside0.mk c2
  have C3 := Aside0.mk c3
  generalize w8.setCell ⟨g, 8, none⟩ (.slice Aq (s.picks ++ [(⟨1, p1, p2⟩ : S29)]).length cq) = w9 at C1 C2 C3 ⊢
  clear c1 c2 c3 z0 z1
  go_wp2_with (fail)
  go_ret
  rw [HR.out]
  have e := HPQ.out
  rw [HPV.out] at e
  exact ⟨rfl, ⟨_, C1.out, by rw [← e]; exact C2.out⟩, C3.out⟩
set_option maxRecDepth 100000 in
set_option maxHeartbeats 8000000 in
theorem reads_bad_step (i : Nat) (hi : 2 ≤ i) (hi2 : i ≤ 4611686018427387904) (g : Nat) (s : Scr) (v : Value) (l : ByteArray) (w w0 : World) (t : ByteArray) (r : List ByteArray)
    (hL : LW w0) (hB0 : Below w0.heap.size w0 w) (hg0 : w0.heap.size ≤ g) (hg : w.heap[g]? = some (.cells (scC s.lim s.reap v) 26 (0, 0))) (hp : Kd.R k29 29 w (g + 1) (fun _ => True) v s.picks) (hs : l.size < 4294967281) (hw : wordsL l = t :: r) (hq : t.toList = wStep) (hm : ¬ 4096 ≤ s.picks.length) (htk : takeOf 1 r = none) :
    Calls Tryd.prog 19 #[.pointer (some ⟨g, 0, none⟩), .int .i64 i, .string l] w (ReadsSays w g (readsW i s t.toList r)) := by
  have HR : Aside0 (readsW i s t.toList r = .error 171) := ⟨by unfold readsW; rw [if_neg (by omega), if_neg (by omega), hq]; unfold pickW; rw [show kindW wStep = some (1, 1) from rfl]; dsimp only; rw [if_neg hm, htk]; first | done | rfl⟩
  generalize readsW i s t.toList r = rr at HR ⊢
  have hq0 : (t.toList == [115, 116, 101, 112]) = true := beq_iff_eq.2 hq
  have HTO := Aside0.mk htk
  have HM := Aside0.mk hm
  clear hq htk
  have hi0 : ((i : Int) == 0) = false := beq_eq_false_iff_ne.2 (by omega)
  have hi1 : ((i : Int) == 1) = false := beq_eq_false_iff_ne.2 (by omega)
  have hi3 : decide ((i : Int) < 2) = false := decide_eq_false (by omega)
  have hm2 : decide ((s.picks.length : Int) ≥ 4096) = false := decide_eq_false (by omega)
  have hm3 : decide (4096 ≤ s.picks.length) = false := decide_eq_false hm
  clear hm
  have HL := Aside0.mk hL
  have HB0 := Aside0.mk hB0
  have HG0 := Aside0.mk hg0
  have BG := Aside0.mk hg
  have HS := Aside0.mk hs
  have HW := Aside0.mk hw
  have HP := Aside0.mk hp
  have HN : Aside0 (Lib.countB l space = r.length) := ⟨by have := words_length l _ rfl; rw [hw, List.length_cons] at this; omega⟩
  have HRL : Aside0 (r.length ≤ 4294967296) := ⟨by have := count_le l; have := HN.out; omega⟩
  have HSZ : Aside0 (∀ t ∈ r, t.size ≤ 281474976710656) := ⟨fun u hu => by have := word_size l u (by rw [hw]; exact List.mem_cons_of_mem _ hu); omega⟩
  have HLW : Aside0 (LW w) := ⟨HL.out.below HB0.out⟩
  have GW := Aside0.mk (blk_lt hg)
  obtain ⟨bw, hbw⟩ : ∃ k, k = w.heap.size := ⟨_, rfl⟩
  have HBW := Aside0.mk hbw
  obtain ⟨A1, hsl, ht⟩ := words_cut bw t r
  have HT := Aside0.mk ht
  clear hL hB0 hg0 hg hs hw hbw ht hp
  go_enter Tryd.func19, Tryd.ntmps19
  go_upto_region 3 with (first
    | (go_at_call 24; refine (split_any l r.length HN.out _ HS.out HLW.out).mono ?_; rw [← HBW.out]; rintro e w1 ⟨rfl, hbk, hb⟩; rw [HW.out] at hbk; have BW := Aside0.mk hbk; have HB := Aside0.mk hb; clear hbk hb)
    | (go_at_call 25; refine (taker_any _ _ _ _).mono ?_; rintro e w2 ⟨rfl, hw2⟩; have x0 : w2.cell? ⟨bw, 0, none⟩ = some (.string t) := (by rw [hw2]; exact pw_cell_below (bel1 w1 _) ((blk_cell BW.out 0).trans rfl)); obtain ⟨bx, hbx⟩ : ∃ k, k = w1.heap.size := ⟨_, rfl⟩; rw [← hbx]; have BX : Aside0 (w2.heap[bx]? = some (.cells #[.slice A1 r.length r.length] 52 (0, 0))) := (by rw [hw2, hbx]; exact ⟨heap_alloc_new w1 _⟩); have HB2 : Aside0 (Below w1.heap.size w1 w2) := (by rw [hw2]; exact ⟨bel1 w1 _⟩); have HBX : Aside0 (bx = w1.heap.size) := ⟨hbx⟩; clear hw2 hbx))
  have HBB : Aside0 (Below w.heap.size w w2) := ⟨by have h1 := HB.out; rw [HBW.out] at h1; exact below_step h1 HB2.out⟩
  have BG2 := Aside0.mk (blk_below BG.out HBB.out)
  have BW2 := Aside0.mk (blk_below BW.out HB2.out)
  have WSI := Aside0.mk ((HT.out.1 w2) BW2.out)
  have HGX : Aside0 (g < bx ∧ g < bw ∧ bx < w2.heap.size) := ⟨by have h1 := GW.out; have h2 := HBW.out; have h3 := HBX.out; have h4 := HB.out.size; have h5 := blk_lt BW.out; have h6 := blk_lt BX.out; omega⟩
  have HP2 := Aside0.mk (Kd.R_below HP.out HBB.out)
  obtain ⟨Ap, cp, hv⟩ := Kd.R_slice HP2.out
  subst hv
  have BP0 := Aside0.mk (heap_alloc_new w2 (.cells #[.int .i64 0, .int .i64 0, .int .i64 0] 29))
  have n1_ := Aside0.mk (blk_below BG2.out (bel1 w2 (.cells #[.int .i64 0, .int .i64 0, .int .i64 0] 29)))
  have n2_ := Aside0.mk (blk_below BX.out (bel1 w2 (.cells #[.int .i64 0, .int .i64 0, .int .i64 0] 29)))
  have n3_ := Aside0.mk (WSI.out.below (bel1 w2 (.cells #[.int .i64 0, .int .i64 0, .int .i64 0] 29)))
  have n4_ := Aside0.mk (below_step HBB.out (bel1 w2 (.cells #[.int .i64 0, .int .i64 0, .int .i64 0] 29)))
  have n5_ := Aside0.mk (Kd.R_mono (Kd.R_below (Kd.R_bound HP2.out) (bel1 w2 (.cells #[.int .i64 0, .int .i64 0, .int .i64 0] 29))) (fun k hk => (hk.2.2.1 : k < w2.heap.size)))
  have n6_ : Aside0 (g < w2.heap.size ∧ bx < w2.heap.size ∧ bw < w2.heap.size) := ⟨by have := HGX.out; have := blk_lt BW2.out; omega⟩
  have n7_ : Aside0 (w2.heap.size < (w2.alloc (.cells #[.int .i64 0, .int .i64 0, .int .i64 0] 29)).heap.size) := ⟨by rw [size_alloc]; omega⟩
  have q0 : (w2.alloc (.cells #[.int .i64 0, .int .i64 0, .int .i64 0] 29)).cell? ⟨bw, 0, none⟩ = some (.string t) := pw_cell_below (bel1 _ _) x0
  have q8 : (w2.alloc (.cells #[.int .i64 0, .int .i64 0, .int .i64 0] 29)).cell? ⟨g, 8, none⟩ = some (.slice Ap s.picks.length cp) := (blk_cell n1_.out 8).trans rfl
  have HWSZ : Aside0 (w.heap.size ≤ w2.heap.size) := ⟨HBB.out.size⟩
  go_upto_region 13 with (fail)
  generalize w2.heap.size = gp at BP0 n5_ n6_ n7_ HWSZ ⊢
  generalize w2.alloc (.cells #[.int .i64 0, .int .i64 0, .int .i64 0] 29) = w3 at BP0 n1_ n2_ n3_ n4_ n5_ n7_ q0 q8 ⊢
  clear BG2 BX WSI HBB HP2 HB HB2 BW BW2 x0
  go_upto_region 26 with ((go_at_call 34; refine (take_any gp 29 #[.int .i64 0, .int .i64 0, .int .i64 0] [1] (some ⟨w3.heap.size, 0, none⟩) 1 bx A1 r.length r (w3.alloc (.cells #[.pointer (some ⟨gp, 1, none⟩)] 68)) w0 HL.out (below_then HB0.out HB0.out.size (below_step n4_.out (bel1 w3 (.cells #[.pointer (some ⟨gp, 1, none⟩)] 68)))) (by have := n6_.out; have := HG0.out; omega) (blk_below BP0.out (bel1 w3 (.cells #[.pointer (some ⟨gp, 1, none⟩)] 68))) (fun o ho => by simp only [List.mem_cons, List.not_mem_nil, or_false] at ho; subst ho; exact ⟨_, rfl⟩) (by decide) ?aP (blk_below n2_.out (bel1 w3 (.cells #[.pointer (some ⟨gp, 1, none⟩)] 68))) (by have := n6_.out; omega) (n3_.out.below (bel1 w3 (.cells #[.pointer (some ⟨gp, 1, none⟩)] 68))) (fun ad hA => by rw [HT.out.2 ad hA]; have := n6_.out; omega) HRL.out HSZ.out).mono ?_; (case aP => exact ptr_row _ gp (by have := n7_.out; omega) [1] (heap_alloc_new w3 _)); rintro e w5 htk; have HTK := Aside0.mk htk; clear htk; obtain ⟨ev, hev⟩ := HTK.out.ret; subst hev; obtain ⟨ns0, hns⟩ := HTK.out.blk; obtain ⟨p1, p2, hlay⟩ := lay1 ns0; rw [hlay] at hns; clear hlay; have BP5 := Aside0.mk hns; have y0 : w5.cell? ⟨gp, 0, none⟩ = some (.int .i64 0) := (blk_cell hns 0).trans rfl; have y1 : w5.frozen? ⟨gp, 0, none⟩ = false := blk_frozen hns 0; have FR5 : Aside0 (Fr w3.heap.size gp w3 w5) := ⟨(Fr.of_below (bel1 w3 _)).trans (HTK.out.fr.mono (bel1 w3 _).size)⟩; clear hns))
  obtain ⟨pv, hpv⟩ : ∃ x : S29, x = ⟨1, p1, p2⟩ := ⟨_, rfl⟩
  have HPV := Aside0.mk hpv
  have m1_ : Aside0 ((w5.setCell ⟨gp, 0, none⟩ (.int .i64 1)).heap[gp]? = some (.cells #[.int .i64 1, .int .i64 p1, .int .i64 p2] 29 (0, 0))) := ⟨blk_put BP5.out 0 _ rfl⟩
  have FR6 : Aside0 (Fr w3.heap.size gp w3 (w5.setCell ⟨gp, 0, none⟩ (.int .i64 1))) := ⟨fr_set FR5.out 0 _⟩
  have m2_ : Aside0 ((w5.setCell ⟨gp, 0, none⟩ (.int .i64 1)).heap[g]? = some (.cells (scC s.lim s.reap (.slice Ap s.picks.length cp)) 26 (0, 0))) := ⟨FR6.out.blk n1_.out (Nat.le_refl _) (by have := n6_.out; omega)⟩
  have m3_ : Aside0 (Kd.R k29 29 (w5.setCell ⟨gp, 0, none⟩ (.int .i64 1)) (g + 1) (fun k => k < gp) (.slice Ap s.picks.length cp) s.picks) := ⟨Kd.R_step n5_.out (fun k hk hlt => FR6.out.block k hlt (by omega))⟩
  have m4_ : Aside0 (Below (g + 1) w (w5.setCell ⟨gp, 0, none⟩ (.int .i64 1))) := ⟨(n4_.out.mono GW.out).trans (FR6.out.below (by have := n6_.out; have := n7_.out; omega) (by have := n6_.out; omega))⟩
  obtain ⟨a, hev, h171, hal⟩ : ∃ a, ev = .iface 58 (.pointer (some ⟨a, 0, none⟩)) ∧ w5.heap[a]? = some (.cells #[.int .i64 171] 62 (0, 0)) ∧ g < a := by
    have h := HTK.out
    unfold TakeSays at h
    rw [show ([1] : List Nat).length = 1 from rfl, HTO.out] at h
    obtain ⟨⟨a, h1, h2, h3⟩, _⟩ := h
    injection h1 with h1
    refine ⟨a, h1, h2, ?_⟩
    have := n6_.out
    have := n7_.out
    have := (bel1 w3 (.cells #[.pointer (some ⟨gp, 1, none⟩)] 68)).size; omega
  subst hev
  have hgpa : a ≠ gp := blk_ne h171 BP5.out (by decide)
  have m5_ : Aside0 ((w5.setCell ⟨gp, 0, none⟩ (.int .i64 1)).heap[a]? = some (.cells #[.int .i64 171] 62 (0, 0))) := ⟨blk_far h171 hgpa _⟩
  have HAL := Aside0.mk hal
  clear h171 hgpa hal
  generalize w5.setCell ⟨gp, 0, none⟩ (.int .i64 1) = w6 at m1_ m2_ m3_ m4_ m5_ ⊢
  clear n1_ n2_ n3_ n4_ n5_ n7_ q0 q8 y0 y1 BP0 BP5 FR5 FR6 HTK hpv
  refine start_ (n := 11) (S := fun w' => w'.cell? ⟨g, 8, none⟩ = some (.slice Ap s.picks.length cp) ∧ w'.cell? ⟨gp, 0, none⟩ = some (.int .i64 1) ∧ w'.cell? ⟨gp, 1, none⟩ = some (.int .i64 p1) ∧ w'.cell? ⟨gp, 2, none⟩ = some (.int .i64 p2)) (ds := [10]) #[false, false, false, false, false, false, false, false, false, false, false] (by kernel_rfl) rfl rfl ⟨(blk_cell (blk_drew m2_.out |> Aside0.mk).out 8).trans rfl, (blk_cell (blk_drew m1_.out |> Aside0.mk).out 0).trans rfl, (blk_cell (blk_drew m1_.out |> Aside0.mk).out 1).trans rfl, (blk_cell (blk_drew m1_.out |> Aside0.mk).out 2).trans rfl⟩ (fun hHeld => ?_)
  refine with_tabW q26tab q26bits (fun HT_ HW_ => ?_)
  have o1_ := Aside0.mk (blk_drew m1_.out)
  have o2_ := Aside0.mk (blk_drew m2_.out)
  have o3_ := Aside0.mk (Kd.R_drew m3_.out)
  have o4_ := Aside0.mk (below_drew1 m4_.out)
  have o5_ := Aside0.mk (blk_drew m5_.out)
  generalize w6.drew = w7 at o1_ o2_ o3_ o4_ o5_ hHeld ⊢
  clear m1_ m2_ m3_ m4_ m5_
  refine pure_ (i := 0) (N := some 123) (v := ?_) (a' := ?_) #[true, false, false, false, false, false, false, false, false, false, false] rfl rfl (any_of HT_.out (by kernel_rfl)) (fun _ _ _ h => h) (Or.inl ⟨by rfl, ?_⟩) ?_ ?_
  rotate_left
  · intro w'
    go_simp
    with_reducible rfl
  rotate_left
  · simp only [Act.put, List.setIfInBounds_toArray, List.set_cons_zero, List.set_cons_succ, i64_w, i32_w]
    rfl
  refine pure_ (i := 1) (N := some 124) (v := ?_) (a' := ?_) #[true, true, false, false, false, false, false, false, false, false, false] rfl rfl (any_of HT_.out (by kernel_rfl)) (fun _ _ _ h => h) (Or.inl ⟨by rfl, ?_⟩) ?_ ?_
  rotate_left
  · intro w'
    go_simp
    with_reducible rfl
  rotate_left
  · simp only [Act.put, List.setIfInBounds_toArray, List.set_cons_zero, List.set_cons_succ, i64_w, i32_w]
    rfl
  refine pure_ (i := 2) (N := some 125) (v := ?_) (a' := ?_) #[true, true, true, false, false, false, false, false, false, false, false] rfl rfl (any_of HT_.out (by kernel_rfl)) (fun _ _ _ h => h) (Or.inl ⟨by rfl, ?_⟩) ?_ ?_
  rotate_left
  · intro w'
    go_simp
    with_reducible rfl
  rotate_left
  · simp only [Act.put, List.setIfInBounds_toArray, List.set_cons_zero, List.set_cons_succ, i64_w, i32_w]
    rfl
  refine pure_ (i := 3) (N := some 126) (v := ?_) (a' := ?_) #[true, true, true, true, false, false, false, false, false, false, false] rfl rfl (any_of HT_.out (by kernel_rfl)) (fun _ _ _ h => h) (Or.inl ⟨by rfl, ?_⟩) ?_ ?_
  rotate_left
  · intro w'
    go_simp
    with_reducible rfl
  rotate_left
  · simp only [Act.put, List.setIfInBounds_toArray, List.set_cons_zero, List.set_cons_succ, i64_w, i32_w]
    rfl
  refine take_ (i := 4) (N := some 127) (v := ?_) (a' := ?_) #[true, true, true, true, true, false, false, false, false, false, false] rfl rfl (take_ofW HT_.out HW_.out (by kernel_rfl)) (fun _ _ _ h => h) (Or.inl ⟨by rfl, ?_⟩) hHeld ?_ ?_
  rotate_left
  · rintro w' ⟨s0, s1, s2, s3⟩
    go_simp
    with_reducible rfl
  rotate_left
  · simp only [Act.put, List.setIfInBounds_toArray, List.set_cons_zero, List.set_cons_succ, i64_w, i32_w]
    rfl
  refine take_ (i := 5) (N := some 128) (v := ?_) (a' := ?_) #[true, true, true, true, true, true, false, false, false, false, false] rfl rfl (take_ofW HT_.out HW_.out (by kernel_rfl)) (fun _ _ _ h => h) (Or.inl ⟨by rfl, ?_⟩) hHeld ?_ ?_
  rotate_left
  · rintro w' ⟨s0, s1, s2, s3⟩
    go_simp
    with_reducible rfl
  rotate_left
  · simp only [Act.put, List.setIfInBounds_toArray, List.set_cons_zero, List.set_cons_succ, i64_w, i32_w]
    rfl
  refine one_ (i := 6) (N := some 129) #[true, true, true, true, true, true, true, false, false, false, false] rfl rfl (one_of HT_.out (by kernel_rfl)) (by decide) (fun K hK => ?_)
  refine event_step (v := .slice (some ⟨w7.heap.size, 0, none⟩) 1 1) (w1 := w7.alloc (.cells #[.int .i64 1, .int .i64 p1, .int .i64 p2] 29)) (by rfl) (by first | (go_simp; done) | (go_simp; rfl)) ?_
  refine hK.out _ _ ⟨(blk_cell (blk_below o2_.out (bel1 w7 _)) 8).trans rfl, (blk_cell (blk_below o1_.out (bel1 w7 _)) 0).trans rfl, (blk_cell (blk_below o1_.out (bel1 w7 _)) 1).trans rfl, (blk_cell (blk_below o1_.out (bel1 w7 _)) 2).trans rfl⟩ (fun hHeld => ?_)
  clear hK K
  refine norm_ (a' := ?_) ?_ ?_
  rotate_left
  · show Act.put _ (some 129) _ = _
    simp only [Act.put, List.setIfInBounds_toArray, List.set_cons_zero, List.set_cons_succ, i64_w, i32_w]
    rfl
  refine one_ (i := 7) (N := some 130) #[true, true, true, true, true, true, true, true, false, false, false] rfl rfl (one_of HT_.out (by kernel_rfl)) (by decide) (fun K hK => ?_)
  refine Kd.R_append_step k29 (w0 := w) (g + 1) (by rfl) (.tmp 127) (.tmp 129) 24 29 (.agg #[.int .i64 0, .int .i64 0, .int .i64 0]) 24 (by rfl) Tryd.underlying24 info29 (by rfl) (by decide) (by decide) (.slice Ap s.picks.length cp) s.picks ⟨1, p1, p2⟩ [.int .i64 1, .int .i64 p1, .int .i64 p2] (fun _ => True) (fun _ => False) (by rfl) (by rfl) (k29_mkM _ _ _ _) (fun _ h => h.elim) (fun _ _ => trivial) (Kd.R_mono o3_.out (fun _ _ => trivial)) o4_.out (Nat.le_trans GW.out o4_.out.size) ?aL ?_
  case aL => have := HM.out; omega
  intro v1 w8 ho hb hg1 hat
  have HO8 := Aside0.mk ho
  have HB8 := Aside0.mk hb
  have r1_ := Aside0.mk (blk_grown (blk_below o2_.out (Below.refl _ w7)) hg1 (Kd.R_ne o3_.out o2_.out (by decide)))
  have r2_ := Aside0.mk (blk_grown (blk_below o1_.out (Below.refl _ w7)) hg1 (fun he => absurd (o3_.out.1 gp he.symm) (Nat.lt_irrefl _)))
  have r5_ := Aside0.mk (blk_grown o5_.out hg1 (Kd.R_ne o3_.out o5_.out (by decide)))
  clear ho hb hg1 hat o1_ o2_ o3_ o4_ o5_
  refine hK.out _ _ ⟨(blk_cell r1_.out 8).trans rfl, (blk_cell r2_.out 0).trans rfl, (blk_cell r2_.out 1).trans rfl, (blk_cell r2_.out 2).trans rfl⟩ (fun hHeld => ?_)
  clear hK K
  refine norm_ (a' := ?_) ?_ ?_
  rotate_left
  · show Act.put _ (some 130) _ = _
    simp only [Act.put, List.setIfInBounds_toArray, List.set_cons_zero, List.set_cons_succ, i64_w, i32_w]
    rfl
  refine pure_ (i := 8) (N := some 131) (v := ?_) (a' := ?_) #[true, true, true, true, true, true, true, true, true, false, false] rfl rfl (any_of HT_.out (by kernel_rfl)) (fun _ _ _ h => h) (Or.inl ⟨by rfl, ?_⟩) ?_ ?_
  rotate_left
  · intro w'
    go_simp
    with_reducible rfl
  rotate_left
  · simp only [Act.put, List.setIfInBounds_toArray, List.set_cons_zero, List.set_cons_succ, i64_w, i32_w]
    rfl
  refine pure_ (i := 9) (N := some 132) (v := ?_) (a' := ?_) #[true, true, true, true, true, true, true, true, true, true, false] rfl rfl (any_of HT_.out (by kernel_rfl)) (fun _ _ _ h => h) (Or.inl ⟨by rfl, ?_⟩) ?_ ?_
  rotate_left
  · intro w'
    go_simp
    with_reducible rfl
  rotate_left
  · simp only [Act.put, List.setIfInBounds_toArray, List.set_cons_zero, List.set_cons_succ, i64_w, i32_w]
    rfl
  have z0 := blk_frozen r1_.out 8
  have z1 : w8.cell? ⟨g, 8, none⟩ = some (.slice Ap s.picks.length cp) := (blk_cell r1_.out 8).trans rfl
  obtain ⟨Aq, cq, hv1⟩ := Kd.R_slice HO8.out
  subst hv1
  refine last_ (i := 10) (N := none) #[true, true, true, true, true, true, true, true, true, true, true] rfl rfl (one_of HT_.out (by kernel_rfl)) (by decide) (fun K hK => ?_)
  refine store_step (w1 := w8.setCell ⟨g, 8, none⟩ (.slice Aq (s.picks ++ [(⟨1, p1, p2⟩ : S29)]).length cq)) (by rfl) rfl (by first | (go_simp; done) | (go_simp; rfl)) ?_
  refine hK.out _ _ ?_
  clear hK K
  refine done_ (done_of HT_.out (by kernel_rfl)) ?_
  have c1 := blk_put r1_.out 8 (.slice Aq (s.picks ++ [(⟨1, p1, p2⟩ : S29)]).length cq) (cs' := scC s.lim s.reap (.slice Aq (s.picks ++ [(⟨1, p1, p2⟩ : S29)]).length cq)) rfl
  have c2 := Kd.R_mono (Kd.R_far (Kd.R_bound HO8.out) (p := ⟨g, 8, none⟩) (fun k hk => by have := hk.2.1; show k ≠ g; omega) (.slice Aq (s.picks ++ [(⟨1, p1, p2⟩ : S29)]).length cq)) (ok' := fun _ => True) (fun _ _ => trivial)
  have c3 := below_setG (HB8.out.mono (Nat.le_succ g)) (Nat.le_refl g) 8 (.slice Aq (s.picks ++ [(⟨1, p1, p2⟩ : S29)]).length cq)
  have C1 := Aside0.mk c1
  have C2 := Aside0.mk c2
  have C3 := Aside0.mk c3
  have C5 := Aside0.mk (blk_far (p := ⟨g, 8, none⟩) r5_.out (fun e => by have h1 := HAL.out; have h2 : a = g := e; omega) (.slice Aq (s.picks ++ [(⟨1, p1, p2⟩ : S29)]).length cq))
  generalize w8.setCell ⟨g, 8, none⟩ (.slice Aq (s.picks ++ [(⟨1, p1, p2⟩ : S29)]).length cq) = w9 at C1 C2 C3 C5 ⊢
  clear c1 c2 c3 z0 z1
  go_wp2_with (fail)
  go_ret
  rw [HR.out]
  exact ⟨⟨a, rfl, C5.out, HAL.out⟩, C3.out⟩
end Go.Proofs.YtmoebchaiokamaaDoor.Given
