/- Small facts for script.reads at a pick; a line that names no pick. -/
import Derived.Test.YtmoebchaiokamaaDoorGivenJ
namespace Go.Proofs.YtmoebchaiokamaaDoor.Given
open Go.RowKit Go.Proofs.YtmoebchaiokamaaDoorW.PrintWords Go.Proofs.YtmoebchaiokamaaDoorW.PrintLast Go.Proofs.YtmoebchaiokamaaDoorW.PrintMore Go.Proofs.YtmoebchaiokamaaDoor.Print
set_option linter.unusedVariables false
set_option linter.unusedSimpArgs false
theorem ptr_row (b g : Nat) (hb : b ≠ g) (os : List Nat) {W : World} (h : W.heap[b]? = some (.cells (os.map fun o => Value.pointer (some ⟨g, o, none⟩)).toArray 68 (0, 0))) : ∀ (j o : Nat), os[j]? = some o → ∃ ad, some (⟨b, 0, none⟩ : Addr) = some ad ∧ ad.block ≠ g ∧ W.cell? (ad.add j) = some (.pointer (some ⟨g, o, none⟩)) := fun j o hj => ⟨_, rfl, hb, by
  have e2 : (⟨b, 0, none⟩ : Addr).add j = ⟨b, j, none⟩ := by simp [Addr.add]; exact Eq.symm
  rw [e2, blk_cell h j]
  simp [hj]⟩
theorem info29 : (Tryd.prog.info? 29).map (fun i => (i.zero, i.size, i.bytes)) = some (some (.agg #[.int .i64 0, .int .i64 0, .int .i64 0]), 3, 24) := by kernel_rfl
theorem lay0 (ns : List Int) : ∃ a b : Int, layAll #[.int .i64 0, .int .i64 0, .int .i64 0] [] ns = #[.int .i64 0, .int .i64 a, .int .i64 b] := ⟨0, 0, by cases ns <;> rfl⟩
theorem lay1 (ns : List Int) : ∃ a b : Int, layAll #[.int .i64 0, .int .i64 0, .int .i64 0] [1] ns = #[.int .i64 0, .int .i64 a, .int .i64 b] := match ns with
  | [] => ⟨0, 0, rfl⟩
  | [a] => ⟨a, 0, rfl⟩
  | a :: _ :: _ => ⟨a, 0, rfl⟩
theorem lay2 (ns : List Int) : ∃ a b : Int, layAll #[.int .i64 0, .int .i64 0, .int .i64 0] [1, 2] ns = #[.int .i64 0, .int .i64 a, .int .i64 b] := match ns with
  | [] => ⟨0, 0, rfl⟩
  | [a] => ⟨a, 0, rfl⟩
  | [a, b] => ⟨a, b, rfl⟩
  | a :: b :: _ :: _ => ⟨a, b, rfl⟩
def q26T : Bool × List (List Nat × List Nat) := (true, [([], []), ([], []), ([1], [1]), ([2], [2]), ([3], [3]), ([], []), ([5], [5]), ([4, 6], [4, 6]), ([0, 0, 1, 2, 3, 4, 5, 6, 7], [0]), ([8, 0, 1, 2, 3, 4, 5, 6, 7], [8]), ([9, 7, 7, 0, 1, 2, 3, 4, 5, 6, 7], [7, 9])])
def q26B : List Nat := [0, 0, 2, 6, 14, 0, 32, 126, 255, 511, 1023]
theorem q26tab : rtab .any (opsOf Tryd.f19 26) = q26T := by kernel_rfl
theorem q26bits : waitsOk q26T.2 q26B = true := by kernel_rfl
set_option maxRecDepth 100000 in
set_option maxHeartbeats 8000000 in
theorem reads_none (i : Nat) (hi : 2 ≤ i) (hi2 : i ≤ 4611686018427387904) (g : Nat) (s : Scr) (v : Value) (l : ByteArray) (w w0 : World) (t : ByteArray) (r : List ByteArray)
    (hL : LW w0) (hB0 : Below w0.heap.size w0 w) (hg0 : w0.heap.size ≤ g) (hg : w.heap[g]? = some (.cells (scC s.lim s.reap v) 26 (0, 0))) (hp : Kd.R k29 29 w (g + 1) (fun _ => True) v s.picks) (hs : l.size < 4294967281) (hw : wordsL l = t :: r) (hq : kindW t.toList = none) :
    Calls Tryd.prog 19 #[.pointer (some ⟨g, 0, none⟩), .int .i64 i, .string l] w (ReadsSays w g (readsW i s t.toList r)) := by
  have HR : Aside0 (readsW i s t.toList r = .error 170) := ⟨by unfold readsW; rw [if_neg (by omega), if_neg (by omega)]; unfold pickW; rw [hq]⟩
  generalize readsW i s t.toList r = rr at HR ⊢
  have hq0 : (t.toList == [115, 116, 101, 112]) = false := beq_eq_false_iff_ne.2 (fun h => by rw [h] at hq; revert hq; decide)
  have hq1 : (t.toList == [105, 110]) = false := beq_eq_false_iff_ne.2 (fun h => by rw [h] at hq; revert hq; decide)
  have hq2 : (t.toList == [111, 117, 116]) = false := beq_eq_false_iff_ne.2 (fun h => by rw [h] at hq; revert hq; decide)
  have hq3 : (t.toList == [112, 114, 111, 98, 101]) = false := beq_eq_false_iff_ne.2 (fun h => by rw [h] at hq; revert hq; decide)
  clear hq
  have hi0 : ((i : Int) == 0) = false := beq_eq_false_iff_ne.2 (by omega)
  have hi1 : ((i : Int) == 1) = false := beq_eq_false_iff_ne.2 (by omega)
  have hi3 : decide ((i : Int) < 2) = false := decide_eq_false (by omega)
  have HL := Aside0.mk hL
  have HB0 := Aside0.mk hB0
  have HG0 := Aside0.mk hg0
  have BG := Aside0.mk hg
  have HS := Aside0.mk hs
  have HW := Aside0.mk hw
  have HP := Aside0.mk hp
  have HN : Aside0 (Lib.countB l space = r.length) := ⟨by have := words_length l _ rfl; rw [hw, List.length_cons] at this; omega⟩
  have HRL : Aside0 (r.length ≤ 4294967296) := ⟨by have := count_le l; have := HN.out; omega⟩
  have HSZ : Aside0 (∀ t ∈ r, t.size ≤ 281474976710656) := ⟨fun u hu => by have := word_size l u (by rw [hw]; exact List.mem_cons_of_mem _ hu); omega⟩
  have HLW : Aside0 (LW w) := ⟨HL.out.below HB0.out⟩
  have GW := Aside0.mk (blk_lt hg)
  obtain ⟨bw, hbw⟩ : ∃ k, k = w.heap.size := ⟨_, rfl⟩
  have HBW := Aside0.mk hbw
  obtain ⟨A1, hsl, ht⟩ := words_cut bw t r
  have HT := Aside0.mk ht
  clear hL hB0 hg0 hg hs hw hbw ht hp
  go_enter Tryd.func19, Tryd.ntmps19
  go_upto_region 3 with (first
    | (go_at_call 24; refine (split_any l r.length HN.out _ HS.out HLW.out).mono ?_; rw [← HBW.out]; rintro e w1 ⟨rfl, hbk, hb⟩; rw [HW.out] at hbk; have BW := Aside0.mk hbk; have HB := Aside0.mk hb; clear hbk hb)
    | (go_at_call 25; refine (taker_any _ _ _ _).mono ?_; rintro e w2 ⟨rfl, hw2⟩; have x0 : w2.cell? ⟨bw, 0, none⟩ = some (.string t) := (by rw [hw2]; exact pw_cell_below (bel1 w1 _) ((blk_cell BW.out 0).trans rfl)); obtain ⟨bx, hbx⟩ : ∃ k, k = w1.heap.size := ⟨_, rfl⟩; rw [← hbx]; have BX : Aside0 (w2.heap[bx]? = some (.cells #[.slice A1 r.length r.length] 52 (0, 0))) := (by rw [hw2, hbx]; exact ⟨heap_alloc_new w1 _⟩); have HB2 : Aside0 (Below w1.heap.size w1 w2) := (by rw [hw2]; exact ⟨bel1 w1 _⟩); have HBX : Aside0 (bx = w1.heap.size) := ⟨hbx⟩; clear hw2 hbx))
  have HBB : Aside0 (Below w.heap.size w w2) := ⟨by have h1 := HB.out; rw [HBW.out] at h1; exact below_step h1 HB2.out⟩
  have BG2 := Aside0.mk (blk_below BG.out HBB.out)
  have BW2 := Aside0.mk (blk_below BW.out HB2.out)
  have WSI := Aside0.mk ((HT.out.1 w2) BW2.out)
  have HGX : Aside0 (g < bx ∧ g < bw ∧ bx < w2.heap.size) := ⟨by have h1 := GW.out; have h2 := HBW.out; have h3 := HBX.out; have h4 := HB.out.size; have h5 := blk_lt BW.out; have h6 := blk_lt BX.out; omega⟩
  have HP2 := Aside0.mk (Kd.R_below HP.out HBB.out)
  obtain ⟨Ap, cp, hv⟩ := Kd.R_slice HP2.out
  subst hv
  have BP0 := Aside0.mk (heap_alloc_new w2 (.cells #[.int .i64 0, .int .i64 0, .int .i64 0] 29))
  have n1_ := Aside0.mk (blk_below BG2.out (bel1 w2 (.cells #[.int .i64 0, .int .i64 0, .int .i64 0] 29)))
  have n2_ := Aside0.mk (blk_below BX.out (bel1 w2 (.cells #[.int .i64 0, .int .i64 0, .int .i64 0] 29)))
  have n3_ := Aside0.mk (WSI.out.below (bel1 w2 (.cells #[.int .i64 0, .int .i64 0, .int .i64 0] 29)))
  have n4_ := Aside0.mk (below_step HBB.out (bel1 w2 (.cells #[.int .i64 0, .int .i64 0, .int .i64 0] 29)))
  have n5_ := Aside0.mk (Kd.R_mono (Kd.R_below (Kd.R_bound HP2.out) (bel1 w2 (.cells #[.int .i64 0, .int .i64 0, .int .i64 0] 29))) (fun k hk => (hk.2.2.1 : k < w2.heap.size)))
  have n6_ : Aside0 (g < w2.heap.size ∧ bx < w2.heap.size ∧ bw < w2.heap.size) := ⟨by have := HGX.out; have := blk_lt BW2.out; omega⟩
  have n7_ : Aside0 (w2.heap.size < (w2.alloc (.cells #[.int .i64 0, .int .i64 0, .int .i64 0] 29)).heap.size) := ⟨by rw [size_alloc]; omega⟩
  have q0 : (w2.alloc (.cells #[.int .i64 0, .int .i64 0, .int .i64 0] 29)).cell? ⟨bw, 0, none⟩ = some (.string t) := pw_cell_below (bel1 _ _) x0
  have q8 : (w2.alloc (.cells #[.int .i64 0, .int .i64 0, .int .i64 0] 29)).cell? ⟨g, 8, none⟩ = some (.slice Ap s.picks.length cp) := (blk_cell n1_.out 8).trans rfl
  have HWSZ : Aside0 (w.heap.size ≤ w2.heap.size) := ⟨HBB.out.size⟩
  go_upto_region 13 with (fail)
  generalize w2.heap.size = gp at BP0 n5_ n6_ n7_ HWSZ ⊢
  generalize w2.alloc (.cells #[.int .i64 0, .int .i64 0, .int .i64 0] 29) = w3 at BP0 n1_ n2_ n3_ n4_ n5_ n7_ q0 q8 ⊢
  clear BG2 BX WSI HBB HP2 HB HB2 BW BW2 x0
  go_wp2_with ((go_at_call 18; refine (word_any _).mono ?_; rintro e w9 ⟨rfl, hw9⟩; have HW9 := Aside0.mk hw9; clear hw9))
  rw [HR.out]
  go_ret
  have h9 := HW9.out
  subst h9
  exact ⟨⟨_, rfl, heap_alloc_new _ _, by have := n6_.out; have := n7_.out; omega⟩, (below_alloc n4_.out _).mono (Nat.le_of_lt GW.out)⟩
end Go.Proofs.YtmoebchaiokamaaDoor.Given
