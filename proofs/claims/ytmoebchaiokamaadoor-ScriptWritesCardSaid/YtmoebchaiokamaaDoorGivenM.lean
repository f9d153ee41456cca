/- script.Parse at any text shorter than 4294967281 bytes. -/
import Derived.Test.YtmoebchaiokamaaDoorGivenL
import Derived.Deep.RegionHeld3
import Derived.Laws.CopyOwn
namespace Go.Proofs.YtmoebchaiokamaaDoor.Given
open Go.RowKit Go.Proofs.YtmoebchaiokamaaDoorW.PrintWords Go.Proofs.YtmoebchaiokamaaDoorW.PrintLast Go.Proofs.YtmoebchaiokamaaDoorW.PrintMore Go.Proofs.YtmoebchaiokamaaDoor.Print
set_option linter.unusedVariables false
set_option linter.unusedSimpArgs false
def scr0 : Scr := ⟨lim0, false, []⟩
/-- What Parse answers, from a line on: the script, the line, the error. -/
def parseRun : Nat → Nat → Scr → List UInt8 → Scr × Nat × Int
  | 0, _, _, _ => (scr0, 0, 0)
  | m + 1, i, s, l => if l = [] ∧ 2 ≤ i then (s, 0, 0) else match lineCut l with
    | none => (scr0, i + 1, 170)
    | some p => match readsOf i s (mkB p.1) with
      | .error c => (scr0, i + 1, c)
      | .ok s' => parseRun m (i + 1) s' p.2
def parseOf (t : ByteArray) : Scr × Nat × Int := parseRun (t.size + 1) 0 scr0 t.data.toList
/-- What Parse answers lies in memory of its own. -/
def ParseSays (w : World) (r : Scr × Nat × Int) (e : Ending) (w' : World) : Prop :=
  ∃ A c, e = .returned (.tuple #[.agg (scC r.1.lim r.1.reap (.slice A r.1.picks.length c)), .int .i64 (r.2.1 : Int), .int .i64 r.2.2]) ∧ Kd.R k29 29 w' w.heap.size (fun _ => True) (.slice A r.1.picks.length c) r.1.picks ∧ Below w.heap.size w w'
theorem mkB_nil (l : List UInt8) : ((mkB l).toList == []) = decide (l = []) := by
  have : (mkB l).toList = l := by rw [Lib.toList_data, mkB_list]
  rw [this]
  cases l <;> simp
def parseL (l : List UInt8) : Scr × Nat × Int := parseRun (l.length + 1) 0 scr0 l
theorem set9_below {g : Nat} {w w6 : World} (h : Below g w w6) {a0 a1 a2 a3 a4 a5 a6 a7 a8 : Value} : Below g w (((((((((w6.setCell ⟨g, 0, none⟩ a0).setCell ⟨g, 1, none⟩ a1).setCell ⟨g, 2, none⟩ a2).setCell ⟨g, 3, none⟩ a3).setCell ⟨g, 4, none⟩ a4).setCell ⟨g, 5, none⟩ a5).setCell ⟨g, 6, none⟩ a6).setCell ⟨g, 7, none⟩ a7).setCell ⟨g, 8, none⟩ a8) := by
  exact (below_setG (below_setG (below_setG (below_setG (below_setG (below_setG (below_setG (below_setG (below_setG h (Nat.le_refl _) _ _) (Nat.le_refl _) _ _) (Nat.le_refl _) _ _) (Nat.le_refl _) _ _) (Nat.le_refl _) _ _) (Nat.le_refl _) _ _) (Nat.le_refl _) _ _) (Nat.le_refl _) _ _) (Nat.le_refl _) _ _)
theorem set9_cell {g : Nat} {w6 : World} {p : Addr} {v : Value} (h : w6.cell? p = some v) (hp : p.block ≠ g) {a0 a1 a2 a3 a4 a5 a6 a7 a8 : Value} : (((((((((w6.setCell ⟨g, 0, none⟩ a0).setCell ⟨g, 1, none⟩ a1).setCell ⟨g, 2, none⟩ a2).setCell ⟨g, 3, none⟩ a3).setCell ⟨g, 4, none⟩ a4).setCell ⟨g, 5, none⟩ a5).setCell ⟨g, 6, none⟩ a6).setCell ⟨g, 7, none⟩ a7).setCell ⟨g, 8, none⟩ a8).cell? p = some v := by
  have := fr_set (fr_set (fr_set (fr_set (fr_set (fr_set (fr_set (fr_set (fr_set (Fr.refl w6.heap.size g w6) 0 a0) 1 a1) 2 a2) 3 a3) 4 a4) 5 a5) 6 a6) 7 a7) 8 a8
  exact this.cell h (Nat.le_refl _) hp
theorem set9_blk {g T : Nat} {w6 : World} (h : w6.heap[g]? = some (.cells #[.int .i64 0, .int .i64 0, .int .i64 0, .int .i64 0, .int .i64 0, .int .i64 0, .int .i64 0, .bool false, .slice none 0 0] T (0, 0))) : (((((((((w6.setCell ⟨g, 0, none⟩ (.int .i64 0)).setCell ⟨g, 1, none⟩ (.int .i64 0)).setCell ⟨g, 2, none⟩ (.int .i64 0)).setCell ⟨g, 3, none⟩ (.int .i64 0)).setCell ⟨g, 4, none⟩ (.int .i64 0)).setCell ⟨g, 5, none⟩ (.int .i64 0)).setCell ⟨g, 6, none⟩ (.int .i64 0)).setCell ⟨g, 7, none⟩ (.bool false)).setCell ⟨g, 8, none⟩ (.slice none 0 0)).heap[g]? = some (.cells #[.int .i64 0, .int .i64 0, .int .i64 0, .int .i64 0, .int .i64 0, .int .i64 0, .int .i64 0, .bool false, .slice none 0 0] T (0, 0)) := by
  have h0 := blk_put h 0 (.int .i64 0) (cs' := #[.int .i64 0, .int .i64 0, .int .i64 0, .int .i64 0, .int .i64 0, .int .i64 0, .int .i64 0, .bool false, .slice none 0 0]) rfl
  have h1 := blk_put h0 1 (.int .i64 0) (cs' := #[.int .i64 0, .int .i64 0, .int .i64 0, .int .i64 0, .int .i64 0, .int .i64 0, .int .i64 0, .bool false, .slice none 0 0]) rfl
  have h2 := blk_put h1 2 (.int .i64 0) (cs' := #[.int .i64 0, .int .i64 0, .int .i64 0, .int .i64 0, .int .i64 0, .int .i64 0, .int .i64 0, .bool false, .slice none 0 0]) rfl
  have h3 := blk_put h2 3 (.int .i64 0) (cs' := #[.int .i64 0, .int .i64 0, .int .i64 0, .int .i64 0, .int .i64 0, .int .i64 0, .int .i64 0, .bool false, .slice none 0 0]) rfl
  have h4 := blk_put h3 4 (.int .i64 0) (cs' := #[.int .i64 0, .int .i64 0, .int .i64 0, .int .i64 0, .int .i64 0, .int .i64 0, .int .i64 0, .bool false, .slice none 0 0]) rfl
  have h5 := blk_put h4 5 (.int .i64 0) (cs' := #[.int .i64 0, .int .i64 0, .int .i64 0, .int .i64 0, .int .i64 0, .int .i64 0, .int .i64 0, .bool false, .slice none 0 0]) rfl
  have h6 := blk_put h5 6 (.int .i64 0) (cs' := #[.int .i64 0, .int .i64 0, .int .i64 0, .int .i64 0, .int .i64 0, .int .i64 0, .int .i64 0, .bool false, .slice none 0 0]) rfl
  have h7 := blk_put h6 7 (.bool false) (cs' := #[.int .i64 0, .int .i64 0, .int .i64 0, .int .i64 0, .int .i64 0, .int .i64 0, .int .i64 0, .bool false, .slice none 0 0]) rfl
  have h8 := blk_put h7 8 (.slice none 0 0) (cs' := #[.int .i64 0, .int .i64 0, .int .i64 0, .int .i64 0, .int .i64 0, .int .i64 0, .int .i64 0, .bool false, .slice none 0 0]) rfl
  exact h8
def p11T : Bool × List (List Nat × List Nat) := (true, [([], []), ([], []), ([1], [1]), ([], []), ([3], [3]), ([4], [4]), ([5], [5]), ([0, 0], [0]), ([2, 7, 0, 1, 2, 7], [2]), ([6, 8, 0, 1, 2, 3, 4, 5, 6, 7, 8], [6])])
def p11B : List Nat := [0, 0, 2, 0, 8, 24, 56, 1, 135, 511]
theorem p11tab : rtab .any (opsOf Tryd.f10 11) = p11T := by kernel_rfl
theorem p11bits : waitsOk p11T.2 p11B = true := by kernel_rfl
set_option maxRecDepth 100000 in
set_option maxHeartbeats 16000000 in
theorem parse_list (l0 : List UInt8) (w : World) (hL : LW w) (hs : l0.length < 4294967281) : Calls Tryd.prog 10 #[.string (mkB l0)] w (ParseSays w (parseL l0)) := by
  have hu26 := Tryd.underlying26
  have HL := Aside0.mk hL
  have HS := Aside0.mk hs
  have HP0 : Aside0 (parseL l0 = parseRun (l0.length + 1) 0 scr0 l0) := ⟨rfl⟩
  generalize parseL l0 = ro at HP0 ⊢
  have BB0 : Aside0 (((w.alloc (.cells #[.int .i64 0, .int .i64 0, .int .i64 0, .int .i64 0, .int .i64 0, .int .i64 0, .int .i64 0, .bool false, .slice none 0 0] 26)).alloc (.cells #[.int .i64 0, .int .i64 0, .int .i64 0, .int .i64 0, .int .i64 0, .int .i64 0, .int .i64 0, .bool false, .slice none 0 0] 26)).heap[w.heap.size + 1]? = some (.cells #[.int .i64 0, .int .i64 0, .int .i64 0, .int .i64 0, .int .i64 0, .int .i64 0, .int .i64 0, .bool false, .slice none 0 0] 26 (0, 0))) := ⟨by have h := heap_alloc_new (w.alloc (.cells #[.int .i64 0, .int .i64 0, .int .i64 0, .int .i64 0, .int .i64 0, .int .i64 0, .int .i64 0, .bool false, .slice none 0 0] 26)) (.cells #[.int .i64 0, .int .i64 0, .int .i64 0, .int .i64 0, .int .i64 0, .int .i64 0, .int .i64 0, .bool false, .slice none 0 0] 26); rwa [size_alloc] at h⟩
  have BG0 : Aside0 (((w.alloc (.cells #[.int .i64 0, .int .i64 0, .int .i64 0, .int .i64 0, .int .i64 0, .int .i64 0, .int .i64 0, .bool false, .slice none 0 0] 26)).alloc (.cells #[.int .i64 0, .int .i64 0, .int .i64 0, .int .i64 0, .int .i64 0, .int .i64 0, .int .i64 0, .bool false, .slice none 0 0] 26)).heap[w.heap.size]? = some (.cells #[.int .i64 0, .int .i64 0, .int .i64 0, .int .i64 0, .int .i64 0, .int .i64 0, .int .i64 0, .bool false, .slice none 0 0] 26 (0, 0))) := ⟨blk_below (heap_alloc_new w (.cells #[.int .i64 0, .int .i64 0, .int .i64 0, .int .i64 0, .int .i64 0, .int .i64 0, .int .i64 0, .bool false, .slice none 0 0] 26)) (bel1 (w.alloc (.cells #[.int .i64 0, .int .i64 0, .int .i64 0, .int .i64 0, .int .i64 0, .int .i64 0, .int .i64 0, .bool false, .slice none 0 0] 26)) (.cells #[.int .i64 0, .int .i64 0, .int .i64 0, .int .i64 0, .int .i64 0, .int .i64 0, .int .i64 0, .bool false, .slice none 0 0] 26))⟩
  have BW0 : Aside0 (Below w.heap.size w ((w.alloc (.cells #[.int .i64 0, .int .i64 0, .int .i64 0, .int .i64 0, .int .i64 0, .int .i64 0, .int .i64 0, .bool false, .slice none 0 0] 26)).alloc (.cells #[.int .i64 0, .int .i64 0, .int .i64 0, .int .i64 0, .int .i64 0, .int .i64 0, .int .i64 0, .bool false, .slice none 0 0] 26))) := ⟨below_step (bel1 w (.cells #[.int .i64 0, .int .i64 0, .int .i64 0, .int .i64 0, .int .i64 0, .int .i64 0, .int .i64 0, .bool false, .slice none 0 0] 26)) (bel1 (w.alloc (.cells #[.int .i64 0, .int .i64 0, .int .i64 0, .int .i64 0, .int .i64 0, .int .i64 0, .int .i64 0, .bool false, .slice none 0 0] 26)) (.cells #[.int .i64 0, .int .i64 0, .int .i64 0, .int .i64 0, .int .i64 0, .int .i64 0, .int .i64 0, .bool false, .slice none 0 0] 26))⟩
  clear hL hs
  go_enter Tryd.func10, Tryd.ntmps10
  go_upto_region 3 with (fail)
  obtain ⟨g2, hg2⟩ : ∃ k, k = w.heap.size := ⟨_, rfl⟩
  obtain ⟨g5, hg5⟩ : ∃ k, k = g2 + 1 := ⟨_, rfl⟩
  rw [← hg2] at BB0 BG0 BW0 ⊢
  rw [← hg5] at BB0 ⊢
  generalize ((w.alloc (.cells #[.int .i64 0, .int .i64 0, .int .i64 0, .int .i64 0, .int .i64 0, .int .i64 0, .int .i64 0, .bool false, .slice none 0 0] 26)).alloc (.cells #[.int .i64 0, .int .i64 0, .int .i64 0, .int .i64 0, .int .i64 0, .int .i64 0, .int .i64 0, .bool false, .slice none 0 0] 26)) = wi at BB0 BG0 BW0 ⊢
  have HG2 := Aside0.mk hg2
  have HG5 := Aside0.mk hg5
  clear hg2 hg5
  go_loopw [0, 6] (fun v0 v6 wr => ∃ (i m : Nat) (l : List UInt8) (s : Scr) (v : Value), v0 = .string (mkB l) ∧ v6 = .int .i64 (i : Int) ∧ i + l.length ≤ l0.length ∧ l.length < m ∧ Aside0 (ro = parseRun m i s l) ∧ Aside0 (wr.heap[g5]? = some (.cells (scC s.lim s.reap v) 26 (0, 0))) ∧ Aside0 (Kd.R k29 29 wr (g5 + 1) (fun _ => True) v s.picks) ∧ Aside0 (wr.heap[g2]? = some (.cells #[.int .i64 0, .int .i64 0, .int .i64 0, .int .i64 0, .int .i64 0, .int .i64 0, .int .i64 0, .bool false, .slice none 0 0] 26 (0, 0))) ∧ Aside0 (Below g2 w wr)) (fun _ v6 _ => l0.length + 1 - (intOf v6).toNat)
  case atStart => exact ⟨0, l0.length + 1, l0, scr0, .slice none 0 0, rfl, rfl, by omega, by omega, HP0, BB0, ⟨Kd.R_nil _ _ _ _ _⟩, BG0, BW0⟩
  case round =>
    clear BB0 BG0 BW0 HP0
    obtain ⟨i, m, l, s, v, rfl, rfl, hil, hlm, HP, BS, HR, BG, HB⟩ := hrel
    obtain ⟨m, rfl⟩ : ∃ m', m = m' + 1 := ⟨m - 1, by omega⟩
    have HLW : Aside0 (LW wr) := ⟨HL.out.below (by have h := HB.out; rw [HG2.out] at h; exact h)⟩
    have HLS : Aside0 (l.length < 4294967281) := ⟨by have := HS.out; omega⟩
    have HIL := Aside0.mk hil
    have HLM := Aside0.mk hlm
    have HI : Aside0 (i ≤ 4611686018427387904) := ⟨by have := HS.out; omega⟩
    by_cases hend : l = [] ∧ 2 ≤ i
    · have HR2 : Aside0 (ro = (s, 0, 0)) := ⟨by rw [HP.out, parseRun, if_pos hend]⟩
      have hq : ((mkB l).toList == []) = true := by rw [mkB_nil, decide_eq_true hend.1]
      have hq2 : decide ((i : Int) < 2) = false := decide_eq_false (by omega)
      obtain ⟨A, c, hv⟩ := Kd.R_slice HR.out
      subst hv
      clear hend hil hlm
      go_wp2_with (first
        | (refine wpList_load_row rfl 26 (.tmp 5) rfl g5 rfl 26 (scC s.lim s.reap (.slice A s.picks.length c)) (0, 0) _ BS.out Tryd.underlying26 rfl (by kernel_rfl) ?_)
        | (refine wpList_store_row rfl 26 (.tmp 2) (.tmp 42) rfl g2 (scC s.lim s.reap (.slice A s.picks.length c)) rfl rfl 26 _ BG.out (by kernel_rfl) rfl (by kernel_rfl) ?_; have n9_ : Aside0 ((wr.setRow g2 (scC s.lim s.reap (.slice A s.picks.length c))).heap[g2]? = some (.cells (scC s.lim s.reap (.slice A s.picks.length c)) 26 (0, 0))) := ⟨setRow_heap _ _ _ _ _ _ BG.out⟩; have n8_ := Aside0.mk (below_setRow HB.out (Nat.le_refl g2) (scC s.lim s.reap (.slice A s.picks.length c))); have n7_ : Aside0 (Kd.R k29 29 (wr.setRow g2 (scC s.lim s.reap (.slice A s.picks.length c))) (g5 + 1) (fun _ => True) (.slice A s.picks.length c) s.picks) := ⟨Kd.R_mono (Kd.R_step (Kd.R_bound HR.out) (fun k hk _ => setRow_other wr g2 k _ (by have h1 := hk.2.1; have h2 := HG5.out; omega))) (fun _ _ => trivial)⟩; generalize wr.setRow g2 (scC s.lim s.reap (.slice A s.picks.length c)) = w8 at n9_ n8_ n7_ ⊢))
      refine bodyPost_ret (results_ctt rfl _ _ g2 26 (scC s.lim s.reap (.slice A s.picks.length c)) (0, 0) _ rfl n9_.out Tryd.underlying26 rfl (by kernel_rfl)) rfl ?_
      rw [HR2.out]
      exact ⟨A, c, rfl, Kd.R_lower n7_.out (by have h1 := HG5.out; have h2 := HG2.out; omega), by have h := n8_.out; rw [HG2.out] at h; exact h⟩
    · have hq : (((mkB l).toList == []) = true ∧ decide ((i : Int) < 2) = true) ∨ ((mkB l).toList == []) = false := by
        rw [mkB_nil]
        by_cases hl : l = []
        · exact .inl ⟨decide_eq_true hl, decide_eq_true (by have : ¬ 2 ≤ i := fun h => hend ⟨hl, h⟩; omega)⟩
        · exact .inr (decide_eq_false hl)
      have HRU : Aside0 (ro = match lineCut l with
          | none => (scr0, i + 1, 170)
          | some p => match readsOf i s (mkB p.1) with
            | .error c => (scr0, i + 1, c)
            | .ok s' => parseRun m (i + 1) s' p.2) := ⟨by rw [HP.out, parseRun, if_neg hend]⟩
      clear hend HP hil hlm
      cases hcl : lineCut l with
      | none =>
        have HCL := Aside0.mk hcl
        have HR2 : Aside0 (ro = (scr0, i + 1, 170)) := ⟨by rw [HRU.out, HCL.out]⟩
        clear hcl HRU
        rcases hq with ⟨hq, hq2⟩ | hq
        · go_upto_region 9 with (first
            | (go_at_call 17; refine (cut_any l _ HLW.out HLS.out).mono ?_; rw [HCL.out]; rintro e w1 ⟨rfl, hb⟩; have B1 := Aside0.mk hb; clear hb)
            | (go_at_call 18; refine (word_any _).mono ?_; rintro e w2 ⟨rfl, hw2⟩; obtain ⟨ga, hga⟩ : ∃ k, k = w1.heap.size := ⟨_, rfl⟩; rw [← hga]; have GA : Aside0 (ga = w1.heap.size) := ⟨hga⟩; have H170 : Aside0 (w2.heap[ga]? = some (.cells #[.int .i64 170] 62 (0, 0))) := ⟨by rw [hw2, hga]; exact heap_alloc_new _ _⟩; have B2 : Aside0 (Below wr.heap.size wr w2) := ⟨by rw [hw2]; exact below_step B1.out (bel1 _ _)⟩; clear hw2 hga))
          have BA := H170
          have HGA : Aside0 (g2 < ga) := ⟨by have h1 := GA.out; have h2 := B1.out.size; have h3 := blk_lt BG.out; omega⟩
          have n1_ := Aside0.mk (blk_below BG.out B2.out)
          have HB3 : Aside0 (Below g2 w w2) := ⟨HB.out.trans (B2.out.mono (Nat.le_of_lt (blk_lt BG.out)))⟩
          clear BG B1 B2 GA HCL BS HR HB hq
          have BG := n1_
          clear n1_
          go_upto_region 10 with (fail)
          have BV := Aside0.mk (heap_alloc_new w2 (.cells #[.pointer none] 58))
          have c1_ := Aside0.mk (blk_below BA.out (bel1 w2 (.cells #[.pointer none] 58)))
          have c2_ := Aside0.mk (blk_below BG.out (bel1 w2 (.cells #[.pointer none] 58)))
          have c3_ : Aside0 (Below g2 w (w2.alloc (.cells #[.pointer none] 58))) := ⟨HB3.out.trans ((bel1 w2 _).mono (Nat.le_of_lt (blk_lt BG.out)))⟩
          have c4_ : Aside0 (g2 < w2.heap.size) := ⟨blk_lt BG.out⟩
          have c5_ : Aside0 (ga ≠ w2.heap.size) := ⟨Nat.ne_of_lt (blk_lt BA.out)⟩
          generalize w2.heap.size = gv at BV c4_ c5_ ⊢
          generalize w2.alloc (.cells #[.pointer none] 58) = w4 at BV c1_ c2_ c3_ ⊢
          go_upto_region 11 with (go_at_call 20; refine (as_blk gv ga _ w4 (HL.out.below (by have h := c3_.out; rw [HG2.out] at h; exact h)) BV.out).mono ?_; rintro e w5 ⟨rfl, hv, hf⟩; have BV5 := Aside0.mk hv; have FR5 := Aside0.mk hf; clear hv hf)
          have d1_ := Aside0.mk (FR5.out.blk c1_.out (Nat.le_refl _) c5_.out)
          have d2_ := Aside0.mk (FR5.out.blk c2_.out (Nat.le_refl _) (by have := c4_.out; omega))
          have d3_ : Aside0 (Below g2 w w5) := ⟨c3_.out.trans (FR5.out.below (Nat.le_of_lt (blk_lt c2_.out)) (Nat.le_of_lt c4_.out))⟩
          have y0 : w5.cell? ⟨gv, 0, none⟩ = some (.pointer (some ⟨ga, 0, none⟩)) := (blk_cell BV5.out 0).trans rfl
          have y1 : w5.cell? ⟨ga, 0, none⟩ = some (.int .i64 170) := (blk_cell d1_.out 0).trans rfl
          have hwi : IntKind.i64.wrap ((i : Int) + 1) = (i : Int) + 1 := Go.IntWalk.i64_in _ (by have := HI.out; omega)
          have HNE : Aside0 (gv ≠ g2 ∧ ga ≠ g2) := ⟨by have := c4_.out; omega, by have := HGA.out; omega⟩
          clear c1_ c2_ c3_ c4_ c5_ BV BA BG HB3 BV5 FR5
          refine start_ (n := 10) (S := fun w' => w'.cell? ⟨gv, 0, none⟩ = some (.pointer (some ⟨ga, 0, none⟩)) ∧ w'.cell? ⟨ga, 0, none⟩ = some (.int .i64 170)) (ds := []) #[false, false, false, false, false, false, false, false, false, false] (by kernel_rfl) rfl rfl ⟨y0, y1⟩ (fun hHeld => ?_)
          refine with_tabW p11tab p11bits (fun HT_ HW_ => ?_)
          have e2_ := Aside0.mk (blk_drew d2_.out)
          have e3_ := Aside0.mk (below_drew1 d3_.out)
          generalize w5.drew = w6 at e2_ e3_ hHeld ⊢
          clear d1_ d2_ d3_ y0 y1
          refine pure_ (i := 0) (N := some 34) (v := ?_) (a' := ?_) #[true, false, false, false, false, false, false, false, false, false] rfl rfl (any_of HT_.out (by kernel_rfl)) (fun _ _ _ h => h) (Or.inl ⟨by rfl, ?_⟩) ?_ ?_
          rotate_left
          · intro w'
            go_simp
            with_reducible rfl
          rotate_left
          · simp only [Act.put, List.setIfInBounds_toArray, List.set_cons_zero, List.set_cons_succ, i64_w, i32_w]
            rfl
          refine pure_ (i := 1) (N := some 35) (v := ?_) (a' := ?_) #[true, true, false, false, false, false, false, false, false, false] rfl rfl (any_of HT_.out (by kernel_rfl)) (fun _ _ _ h => h) (Or.inl ⟨by rfl, ?_⟩) ?_ ?_
          rotate_left
          · intro w'
            go_simp
            with_reducible rfl
          rotate_left
          · simp only [Act.put, List.setIfInBounds_toArray, List.set_cons_zero, List.set_cons_succ, i64_w, i32_w]
            rfl
          refine pure_ (i := 2) (N := some 36) (v := ?_) (a' := ?_) #[true, true, true, false, false, false, false, false, false, false] rfl rfl (any_of HT_.out (by kernel_rfl)) (fun _ _ _ h => h) (Or.inl ⟨by rfl, ?_⟩) ?_ ?_
          rotate_left
          · intro w'
            go_simp
            with_reducible rfl
          rotate_left
          · simp only [Act.put, List.setIfInBounds_toArray, List.set_cons_zero, List.set_cons_succ, i64_w, i32_w]
            rfl
          refine take_ (i := 3) (N := some 37) (v := ?_) (a' := ?_) #[true, true, true, true, false, false, false, false, false, false] rfl rfl (take_ofW HT_.out HW_.out (by kernel_rfl)) (fun _ _ _ h => h) (Or.inl ⟨by rfl, ?_⟩) hHeld ?_ ?_
          rotate_left
          · rintro w' ⟨s0, s1⟩
            go_simp
            with_reducible rfl
          rotate_left
          · simp only [Act.put, List.setIfInBounds_toArray, List.set_cons_zero, List.set_cons_succ, i64_w, i32_w]
            rfl
          refine pure_ (i := 4) (N := some 38) (v := ?_) (a' := ?_) #[true, true, true, true, true, false, false, false, false, false] rfl rfl (any_of HT_.out (by kernel_rfl)) (fun _ _ _ h => h) (Or.inl ⟨by rfl, ?_⟩) ?_ ?_
          rotate_left
          · intro w'
            go_simp
            with_reducible rfl
          rotate_left
          · simp only [Act.put, List.setIfInBounds_toArray, List.set_cons_zero, List.set_cons_succ, i64_w, i32_w]
            rfl
          refine pure_ (i := 5) (N := some 39) (v := ?_) (a' := ?_) #[true, true, true, true, true, true, false, false, false, false] rfl rfl (any_of HT_.out (by kernel_rfl)) (fun _ _ _ h => h) (Or.inl ⟨by rfl, ?_⟩) ?_ ?_
          rotate_left
          · intro w'
            go_simp
            with_reducible rfl
          rotate_left
          · simp only [Act.put, List.setIfInBounds_toArray, List.set_cons_zero, List.set_cons_succ, i64_w, i32_w]
            rfl
          refine take_ (i := 6) (N := some 40) (v := ?_) (a' := ?_) #[true, true, true, true, true, true, true, false, false, false] rfl rfl (take_ofW HT_.out HW_.out (by kernel_rfl)) (fun _ _ _ h => h) (Or.inl ⟨by rfl, ?_⟩) hHeld ?_ ?_
          rotate_left
          · rintro w' ⟨s0, s1⟩
            go_simp
            with_reducible rfl
          rotate_left
          · simp only [Act.put, List.setIfInBounds_toArray, List.set_cons_zero, List.set_cons_succ, i64_w, i32_w]
            rfl
          have z0 : w6.cell? ⟨g2, 0, none⟩ = some (.int .i64 0) := (blk_cell e2_.out 0).trans rfl
          have zf0 : w6.frozen? ⟨g2, 0, none⟩ = false := blk_frozen e2_.out 0
          have z1 : w6.cell? ⟨g2, 1, none⟩ = some (.int .i64 0) := (blk_cell e2_.out 1).trans rfl
          have zf1 : w6.frozen? ⟨g2, 1, none⟩ = false := blk_frozen e2_.out 1
          have z2 : w6.cell? ⟨g2, 2, none⟩ = some (.int .i64 0) := (blk_cell e2_.out 2).trans rfl
          have zf2 : w6.frozen? ⟨g2, 2, none⟩ = false := blk_frozen e2_.out 2
          have z3 : w6.cell? ⟨g2, 3, none⟩ = some (.int .i64 0) := (blk_cell e2_.out 3).trans rfl
          have zf3 : w6.frozen? ⟨g2, 3, none⟩ = false := blk_frozen e2_.out 3
          have z4 : w6.cell? ⟨g2, 4, none⟩ = some (.int .i64 0) := (blk_cell e2_.out 4).trans rfl
          have zf4 : w6.frozen? ⟨g2, 4, none⟩ = false := blk_frozen e2_.out 4
          have z5 : w6.cell? ⟨g2, 5, none⟩ = some (.int .i64 0) := (blk_cell e2_.out 5).trans rfl
          have zf5 : w6.frozen? ⟨g2, 5, none⟩ = false := blk_frozen e2_.out 5
          have z6 : w6.cell? ⟨g2, 6, none⟩ = some (.int .i64 0) := (blk_cell e2_.out 6).trans rfl
          have zf6 : w6.frozen? ⟨g2, 6, none⟩ = false := blk_frozen e2_.out 6
          have z7 : w6.cell? ⟨g2, 7, none⟩ = some (.bool false) := (blk_cell e2_.out 7).trans rfl
          have zf7 : w6.frozen? ⟨g2, 7, none⟩ = false := blk_frozen e2_.out 7
          have z8 : w6.cell? ⟨g2, 8, none⟩ = some (.slice none 0 0) := (blk_cell e2_.out 8).trans rfl
          have zf8 : w6.frozen? ⟨g2, 8, none⟩ = false := blk_frozen e2_.out 8
          refine one_ (i := 7) (N := none) #[true, true, true, true, true, true, true, true, false, false] rfl rfl (one_of HT_.out (by kernel_rfl)) (by decide) (fun K hK => ?_)
          refine store_step (w1 := (((((((((w6.setCell ⟨g2, 0, none⟩ (.int .i64 0)).setCell ⟨g2, 1, none⟩ (.int .i64 0)).setCell ⟨g2, 2, none⟩ (.int .i64 0)).setCell ⟨g2, 3, none⟩ (.int .i64 0)).setCell ⟨g2, 4, none⟩ (.int .i64 0)).setCell ⟨g2, 5, none⟩ (.int .i64 0)).setCell ⟨g2, 6, none⟩ (.int .i64 0)).setCell ⟨g2, 7, none⟩ (.bool false)).setCell ⟨g2, 8, none⟩ (.slice none 0 0))) (by rfl) rfl (by first | (go_simp; done) | (go_simp; rfl)) ?_
          refine hK.out _ _ ⟨set9_cell hHeld.1 (by have := HNE.out; show gv ≠ g2; omega), set9_cell hHeld.2 (by have := HNE.out; show ga ≠ g2; omega)⟩ (fun hHeld => ?_)
          clear hK K
          clear z0 zf0 z1 zf1 z2 zf2 z3 zf3 z4 zf4 z5 zf5 z6 zf6 z7 zf7 z8 zf8
          have k2_ := Aside0.mk (set9_blk e2_.out)
          have k3_ : Aside0 (Below g2 w (((((((((w6.setCell ⟨g2, 0, none⟩ (.int .i64 0)).setCell ⟨g2, 1, none⟩ (.int .i64 0)).setCell ⟨g2, 2, none⟩ (.int .i64 0)).setCell ⟨g2, 3, none⟩ (.int .i64 0)).setCell ⟨g2, 4, none⟩ (.int .i64 0)).setCell ⟨g2, 5, none⟩ (.int .i64 0)).setCell ⟨g2, 6, none⟩ (.int .i64 0)).setCell ⟨g2, 7, none⟩ (.bool false)).setCell ⟨g2, 8, none⟩ (.slice none 0 0))) := ⟨set9_below e3_.out⟩
          generalize (((((((((w6.setCell ⟨g2, 0, none⟩ (.int .i64 0)).setCell ⟨g2, 1, none⟩ (.int .i64 0)).setCell ⟨g2, 2, none⟩ (.int .i64 0)).setCell ⟨g2, 3, none⟩ (.int .i64 0)).setCell ⟨g2, 4, none⟩ (.int .i64 0)).setCell ⟨g2, 5, none⟩ (.int .i64 0)).setCell ⟨g2, 6, none⟩ (.int .i64 0)).setCell ⟨g2, 7, none⟩ (.bool false)).setCell ⟨g2, 8, none⟩ (.slice none 0 0)) = w7 at k2_ k3_ ⊢
          refine pure_ (i := 8) (N := some 3) (v := ?_) (a' := ?_) #[true, true, true, true, true, true, true, true, true, false] rfl rfl (any_of HT_.out (by kernel_rfl)) (fun _ _ _ h => h) (Or.inl ⟨by rfl, ?_⟩) ?_ ?_
          rotate_left
          · intro w'
            go_simp
            with_reducible rfl
          rotate_left
          · simp only [Act.put, List.setIfInBounds_toArray, List.set_cons_zero, List.set_cons_succ, i64_w, i32_w]
            rfl
          refine pure_ (i := 9) (N := some 4) (v := ?_) (a' := ?_) #[true, true, true, true, true, true, true, true, true, true] rfl rfl (any_of HT_.out (by kernel_rfl)) (fun _ _ _ h => h) (Or.inl ⟨by rfl, ?_⟩) ?_ ?_
          rotate_left
          · intro w'
            go_simp
            with_reducible rfl
          rotate_left
          · simp only [Act.put, List.setIfInBounds_toArray, List.set_cons_zero, List.set_cons_succ, i64_w, i32_w]
            rfl
          refine done_ (done_of HT_.out (by kernel_rfl)) ?_
          go_wp2_with (fail)
          refine bodyPost_ret (results_ctt rfl _ _ g2 26 #[.int .i64 0, .int .i64 0, .int .i64 0, .int .i64 0, .int .i64 0, .int .i64 0, .int .i64 0, .bool false, .slice none 0 0] (0, 0) _ rfl k2_.out Tryd.underlying26 rfl (by kernel_rfl)) rfl ?_
          rw [HR2.out]
          exact ⟨none, 0, rfl, Kd.R_nil _ _ _ _ _, by have h := k3_.out; rw [HG2.out] at h; exact h⟩
        · go_upto_region 9 with (first
            | (go_at_call 17; refine (cut_any l _ HLW.out HLS.out).mono ?_; rw [HCL.out]; rintro e w1 ⟨rfl, hb⟩; have B1 := Aside0.mk hb; clear hb)
            | (go_at_call 18; refine (word_any _).mono ?_; rintro e w2 ⟨rfl, hw2⟩; obtain ⟨ga, hga⟩ : ∃ k, k = w1.heap.size := ⟨_, rfl⟩; rw [← hga]; have GA : Aside0 (ga = w1.heap.size) := ⟨hga⟩; have H170 : Aside0 (w2.heap[ga]? = some (.cells #[.int .i64 170] 62 (0, 0))) := ⟨by rw [hw2, hga]; exact heap_alloc_new _ _⟩; have B2 : Aside0 (Below wr.heap.size wr w2) := ⟨by rw [hw2]; exact below_step B1.out (bel1 _ _)⟩; clear hw2 hga))
          have BA := H170
          have HGA : Aside0 (g2 < ga) := ⟨by have h1 := GA.out; have h2 := B1.out.size; have h3 := blk_lt BG.out; omega⟩
          have n1_ := Aside0.mk (blk_below BG.out B2.out)
          have HB3 : Aside0 (Below g2 w w2) := ⟨HB.out.trans (B2.out.mono (Nat.le_of_lt (blk_lt BG.out)))⟩
          clear BG B1 B2 GA HCL BS HR HB hq
          have BG := n1_
          clear n1_
          go_upto_region 10 with (fail)
          have BV := Aside0.mk (heap_alloc_new w2 (.cells #[.pointer none] 58))
          have c1_ := Aside0.mk (blk_below BA.out (bel1 w2 (.cells #[.pointer none] 58)))
          have c2_ := Aside0.mk (blk_below BG.out (bel1 w2 (.cells #[.pointer none] 58)))
          have c3_ : Aside0 (Below g2 w (w2.alloc (.cells #[.pointer none] 58))) := ⟨HB3.out.trans ((bel1 w2 _).mono (Nat.le_of_lt (blk_lt BG.out)))⟩
          have c4_ : Aside0 (g2 < w2.heap.size) := ⟨blk_lt BG.out⟩
          have c5_ : Aside0 (ga ≠ w2.heap.size) := ⟨Nat.ne_of_lt (blk_lt BA.out)⟩
          generalize w2.heap.size = gv at BV c4_ c5_ ⊢
          generalize w2.alloc (.cells #[.pointer none] 58) = w4 at BV c1_ c2_ c3_ ⊢
          go_upto_region 11 with (go_at_call 20; refine (as_blk gv ga _ w4 (HL.out.below (by have h := c3_.out; rw [HG2.out] at h; exact h)) BV.out).mono ?_; rintro e w5 ⟨rfl, hv, hf⟩; have BV5 := Aside0.mk hv; have FR5 := Aside0.mk hf; clear hv hf)
          have d1_ := Aside0.mk (FR5.out.blk c1_.out (Nat.le_refl _) c5_.out)
          have d2_ := Aside0.mk (FR5.out.blk c2_.out (Nat.le_refl _) (by have := c4_.out; omega))
          have d3_ : Aside0 (Below g2 w w5) := ⟨c3_.out.trans (FR5.out.below (Nat.le_of_lt (blk_lt c2_.out)) (Nat.le_of_lt c4_.out))⟩
          have y0 : w5.cell? ⟨gv, 0, none⟩ = some (.pointer (some ⟨ga, 0, none⟩)) := (blk_cell BV5.out 0).trans rfl
          have y1 : w5.cell? ⟨ga, 0, none⟩ = some (.int .i64 170) := (blk_cell d1_.out 0).trans rfl
          have hwi : IntKind.i64.wrap ((i : Int) + 1) = (i : Int) + 1 := Go.IntWalk.i64_in _ (by have := HI.out; omega)
          have HNE : Aside0 (gv ≠ g2 ∧ ga ≠ g2) := ⟨by have := c4_.out; omega, by have := HGA.out; omega⟩
          clear c1_ c2_ c3_ c4_ c5_ BV BA BG HB3 BV5 FR5
          refine start_ (n := 10) (S := fun w' => w'.cell? ⟨gv, 0, none⟩ = some (.pointer (some ⟨ga, 0, none⟩)) ∧ w'.cell? ⟨ga, 0, none⟩ = some (.int .i64 170)) (ds := []) #[false, false, false, false, false, false, false, false, false, false] (by kernel_rfl) rfl rfl ⟨y0, y1⟩ (fun hHeld => ?_)
          refine with_tabW p11tab p11bits (fun HT_ HW_ => ?_)
          have e2_ := Aside0.mk (blk_drew d2_.out)
          have e3_ := Aside0.mk (below_drew1 d3_.out)
          generalize w5.drew = w6 at e2_ e3_ hHeld ⊢
          clear d1_ d2_ d3_ y0 y1
          refine pure_ (i := 0) (N := some 34) (v := ?_) (a' := ?_) #[true, false, false, false, false, false, false, false, false, false] rfl rfl (any_of HT_.out (by kernel_rfl)) (fun _ _ _ h => h) (Or.inl ⟨by rfl, ?_⟩) ?_ ?_
          rotate_left
          · intro w'
            go_simp
            with_reducible rfl
          rotate_left
          · simp only [Act.put, List.setIfInBounds_toArray, List.set_cons_zero, List.set_cons_succ, i64_w, i32_w]
            rfl
          refine pure_ (i := 1) (N := some 35) (v := ?_) (a' := ?_) #[true, true, false, false, false, false, false, false, false, false] rfl rfl (any_of HT_.out (by kernel_rfl)) (fun _ _ _ h => h) (Or.inl ⟨by rfl, ?_⟩) ?_ ?_
          rotate_left
          · intro w'
            go_simp
            with_reducible rfl
          rotate_left
          · simp only [Act.put, List.setIfInBounds_toArray, List.set_cons_zero, List.set_cons_succ, i64_w, i32_w]
            rfl
          refine pure_ (i := 2) (N := some 36) (v := ?_) (a' := ?_) #[true, true, true, false, false, false, false, false, false, false] rfl rfl (any_of HT_.out (by kernel_rfl)) (fun _ _ _ h => h) (Or.inl ⟨by rfl, ?_⟩) ?_ ?_
          rotate_left
          · intro w'
            go_simp
            with_reducible rfl
          rotate_left
          · simp only [Act.put, List.setIfInBounds_toArray, List.set_cons_zero, List.set_cons_succ, i64_w, i32_w]
            rfl
          refine take_ (i := 3) (N := some 37) (v := ?_) (a' := ?_) #[true, true, true, true, false, false, false, false, false, false] rfl rfl (take_ofW HT_.out HW_.out (by kernel_rfl)) (fun _ _ _ h => h) (Or.inl ⟨by rfl, ?_⟩) hHeld ?_ ?_
          rotate_left
          · rintro w' ⟨s0, s1⟩
            go_simp
            with_reducible rfl
          rotate_left
          · simp only [Act.put, List.setIfInBounds_toArray, List.set_cons_zero, List.set_cons_succ, i64_w, i32_w]
            rfl
          refine pure_ (i := 4) (N := some 38) (v := ?_) (a' := ?_) #[true, true, true, true, true, false, false, false, false, false] rfl rfl (any_of HT_.out (by kernel_rfl)) (fun _ _ _ h => h) (Or.inl ⟨by rfl, ?_⟩) ?_ ?_
          rotate_left
          · intro w'
            go_simp
            with_reducible rfl
          rotate_left
          · simp only [Act.put, List.setIfInBounds_toArray, List.set_cons_zero, List.set_cons_succ, i64_w, i32_w]
            rfl
          refine pure_ (i := 5) (N := some 39) (v := ?_) (a' := ?_) #[true, true, true, true, true, true, false, false, false, false] rfl rfl (any_of HT_.out (by kernel_rfl)) (fun _ _ _ h => h) (Or.inl ⟨by rfl, ?_⟩) ?_ ?_
          rotate_left
          · intro w'
            go_simp
            with_reducible rfl
          rotate_left
          · simp only [Act.put, List.setIfInBounds_toArray, List.set_cons_zero, List.set_cons_succ, i64_w, i32_w]
            rfl
          refine take_ (i := 6) (N := some 40) (v := ?_) (a' := ?_) #[true, true, true, true, true, true, true, false, false, false] rfl rfl (take_ofW HT_.out HW_.out (by kernel_rfl)) (fun _ _ _ h => h) (Or.inl ⟨by rfl, ?_⟩) hHeld ?_ ?_
          rotate_left
          · rintro w' ⟨s0, s1⟩
            go_simp
            with_reducible rfl
          rotate_left
          · simp only [Act.put, List.setIfInBounds_toArray, List.set_cons_zero, List.set_cons_succ, i64_w, i32_w]
            rfl
          have z0 : w6.cell? ⟨g2, 0, none⟩ = some (.int .i64 0) := (blk_cell e2_.out 0).trans rfl
          have zf0 : w6.frozen? ⟨g2, 0, none⟩ = false := blk_frozen e2_.out 0
          have z1 : w6.cell? ⟨g2, 1, none⟩ = some (.int .i64 0) := (blk_cell e2_.out 1).trans rfl
          have zf1 : w6.frozen? ⟨g2, 1, none⟩ = false := blk_frozen e2_.out 1
          have z2 : w6.cell? ⟨g2, 2, none⟩ = some (.int .i64 0) := (blk_cell e2_.out 2).trans rfl
          have zf2 : w6.frozen? ⟨g2, 2, none⟩ = false := blk_frozen e2_.out 2
          have z3 : w6.cell? ⟨g2, 3, none⟩ = some (.int .i64 0) := (blk_cell e2_.out 3).trans rfl
          have zf3 : w6.frozen? ⟨g2, 3, none⟩ = false := blk_frozen e2_.out 3
          have z4 : w6.cell? ⟨g2, 4, none⟩ = some (.int .i64 0) := (blk_cell e2_.out 4).trans rfl
          have zf4 : w6.frozen? ⟨g2, 4, none⟩ = false := blk_frozen e2_.out 4
          have z5 : w6.cell? ⟨g2, 5, none⟩ = some (.int .i64 0) := (blk_cell e2_.out 5).trans rfl
          have zf5 : w6.frozen? ⟨g2, 5, none⟩ = false := blk_frozen e2_.out 5
          have z6 : w6.cell? ⟨g2, 6, none⟩ = some (.int .i64 0) := (blk_cell e2_.out 6).trans rfl
          have zf6 : w6.frozen? ⟨g2, 6, none⟩ = false := blk_frozen e2_.out 6
          have z7 : w6.cell? ⟨g2, 7, none⟩ = some (.bool false) := (blk_cell e2_.out 7).trans rfl
          have zf7 : w6.frozen? ⟨g2, 7, none⟩ = false := blk_frozen e2_.out 7
          have z8 : w6.cell? ⟨g2, 8, none⟩ = some (.slice none 0 0) := (blk_cell e2_.out 8).trans rfl
          have zf8 : w6.frozen? ⟨g2, 8, none⟩ = false := blk_frozen e2_.out 8
          refine one_ (i := 7) (N := none) #[true, true, true, true, true, true, true, true, false, false] rfl rfl (one_of HT_.out (by kernel_rfl)) (by decide) (fun K hK => ?_)
          refine store_step (w1 := (((((((((w6.setCell ⟨g2, 0, none⟩ (.int .i64 0)).setCell ⟨g2, 1, none⟩ (.int .i64 0)).setCell ⟨g2, 2, none⟩ (.int .i64 0)).setCell ⟨g2, 3, none⟩ (.int .i64 0)).setCell ⟨g2, 4, none⟩ (.int .i64 0)).setCell ⟨g2, 5, none⟩ (.int .i64 0)).setCell ⟨g2, 6, none⟩ (.int .i64 0)).setCell ⟨g2, 7, none⟩ (.bool false)).setCell ⟨g2, 8, none⟩ (.slice none 0 0))) (by rfl) rfl (by first | (go_simp; done) | (go_simp; rfl)) ?_
          refine hK.out _ _ ⟨set9_cell hHeld.1 (by have := HNE.out; show gv ≠ g2; omega), set9_cell hHeld.2 (by have := HNE.out; show ga ≠ g2; omega)⟩ (fun hHeld => ?_)
          clear hK K
          clear z0 zf0 z1 zf1 z2 zf2 z3 zf3 z4 zf4 z5 zf5 z6 zf6 z7 zf7 z8 zf8
          have k2_ := Aside0.mk (set9_blk e2_.out)
          have k3_ : Aside0 (Below g2 w (((((((((w6.setCell ⟨g2, 0, none⟩ (.int .i64 0)).setCell ⟨g2, 1, none⟩ (.int .i64 0)).setCell ⟨g2, 2, none⟩ (.int .i64 0)).setCell ⟨g2, 3, none⟩ (.int .i64 0)).setCell ⟨g2, 4, none⟩ (.int .i64 0)).setCell ⟨g2, 5, none⟩ (.int .i64 0)).setCell ⟨g2, 6, none⟩ (.int .i64 0)).setCell ⟨g2, 7, none⟩ (.bool false)).setCell ⟨g2, 8, none⟩ (.slice none 0 0))) := ⟨set9_below e3_.out⟩
          generalize (((((((((w6.setCell ⟨g2, 0, none⟩ (.int .i64 0)).setCell ⟨g2, 1, none⟩ (.int .i64 0)).setCell ⟨g2, 2, none⟩ (.int .i64 0)).setCell ⟨g2, 3, none⟩ (.int .i64 0)).setCell ⟨g2, 4, none⟩ (.int .i64 0)).setCell ⟨g2, 5, none⟩ (.int .i64 0)).setCell ⟨g2, 6, none⟩ (.int .i64 0)).setCell ⟨g2, 7, none⟩ (.bool false)).setCell ⟨g2, 8, none⟩ (.slice none 0 0)) = w7 at k2_ k3_ ⊢
          refine pure_ (i := 8) (N := some 3) (v := ?_) (a' := ?_) #[true, true, true, true, true, true, true, true, true, false] rfl rfl (any_of HT_.out (by kernel_rfl)) (fun _ _ _ h => h) (Or.inl ⟨by rfl, ?_⟩) ?_ ?_
          rotate_left
          · intro w'
            go_simp
            with_reducible rfl
          rotate_left
          · simp only [Act.put, List.setIfInBounds_toArray, List.set_cons_zero, List.set_cons_succ, i64_w, i32_w]
            rfl
          refine pure_ (i := 9) (N := some 4) (v := ?_) (a' := ?_) #[true, true, true, true, true, true, true, true, true, true] rfl rfl (any_of HT_.out (by kernel_rfl)) (fun _ _ _ h => h) (Or.inl ⟨by rfl, ?_⟩) ?_ ?_
          rotate_left
          · intro w'
            go_simp
            with_reducible rfl
          rotate_left
          · simp only [Act.put, List.setIfInBounds_toArray, List.set_cons_zero, List.set_cons_succ, i64_w, i32_w]
            rfl
          refine done_ (done_of HT_.out (by kernel_rfl)) ?_
          go_wp2_with (fail)
          refine bodyPost_ret (results_ctt rfl _ _ g2 26 #[.int .i64 0, .int .i64 0, .int .i64 0, .int .i64 0, .int .i64 0, .int .i64 0, .int .i64 0, .bool false, .slice none 0 0] (0, 0) _ rfl k2_.out Tryd.underlying26 rfl (by kernel_rfl)) rfl ?_
          rw [HR2.out]
          exact ⟨none, 0, rfl, Kd.R_nil _ _ _ _ _, by have h := k3_.out; rw [HG2.out] at h; exact h⟩
      | some p =>
        have HCL := Aside0.mk hcl
        obtain ⟨pa, pb⟩ := p
        have hpl := lineCut_len hcl
        have HPL : Aside0 (pa.length < 4294967281 ∧ pb.length + 1 ≤ l.length) := ⟨by have := HLS.out; omega⟩
        clear hcl hpl
        cases hro : readsOf i s (mkB pa) with
        | error c =>
          have HRO := Aside0.mk hro
          have HR2 : Aside0 (ro = (scr0, i + 1, c)) := ⟨by rw [HRU.out, HCL.out]; show (match readsOf i s (mkB pa) with | .error c => (scr0, i + 1, c) | .ok s' => parseRun m (i + 1) s' pb) = _; rw [HRO.out]⟩
          clear hro HRU
          rcases hq with ⟨hq, hq2⟩ | hq
          · go_upto_region 9 with (first
              | (go_at_call 17; refine (cut_any l _ HLW.out HLS.out).mono ?_; rw [HCL.out]; rintro e w1 ⟨rfl, hb⟩; have B1 := Aside0.mk hb; clear hb)
              | (go_at_call 18; refine (word_any _).mono ?_; rintro e w2 ⟨rfl, hw2⟩; obtain ⟨ga, hga⟩ : ∃ k, k = w1.heap.size := ⟨_, rfl⟩; rw [← hga]; have GA : Aside0 (ga = w1.heap.size) := ⟨hga⟩; have H170 : Aside0 (w2.heap[ga]? = some (.cells #[.int .i64 170] 62 (0, 0))) := ⟨by rw [hw2, hga]; exact heap_alloc_new _ _⟩; have B2 : Aside0 (Below wr.heap.size wr w2) := ⟨by rw [hw2]; exact below_step B1.out (bel1 _ _)⟩; clear hw2 hga)
              | (go_at_call 19; refine (reads_any i HI.out g5 s v (mkB pa) w2 w HL.out (by have h := HB.out; rw [HG2.out] at h; exact below_then h h.size B2.out) (by have h1 := HG2.out; have h2 := HG5.out; omega) (blk_below BS.out B2.out) (Kd.R_below HR.out B2.out) (by rw [mkB_size]; exact HPL.out.1)).mono ?_; rw [HRO.out]; rintro e w3 ⟨⟨ga2, rfl, h1, h2⟩, hb⟩; have BA := Aside0.mk h1; have HGA2 := Aside0.mk h2; have B3 := Aside0.mk hb; clear h1 h2 hb))
            have HGA : Aside0 (g2 < ga2) := ⟨by have h1 := HGA2.out; have h2 := HG5.out; omega⟩
            have n1_ : Aside0 (w3.heap[g2]? = some (.cells #[.int .i64 0, .int .i64 0, .int .i64 0, .int .i64 0, .int .i64 0, .int .i64 0, .int .i64 0, .bool false, .slice none 0 0] 26 (0, 0))) := ⟨(B3.out.block g2 (by have := HG5.out; omega)).trans (blk_below BG.out B2.out)⟩
            have HB3 : Aside0 (Below g2 w w3) := ⟨(HB.out.trans (B2.out.mono (Nat.le_of_lt (blk_lt BG.out)))).trans (B3.out.mono (by have := HG5.out; omega))⟩
            clear BG B1 B2 B3 GA HCL BS HR HB hq HRO HGA2 H170
            have BG := n1_
            clear n1_
            go_upto_region 10 with (fail)
            have BV := Aside0.mk (heap_alloc_new w3 (.cells #[.pointer none] 58))
            have c1_ := Aside0.mk (blk_below BA.out (bel1 w3 (.cells #[.pointer none] 58)))
            have c2_ := Aside0.mk (blk_below BG.out (bel1 w3 (.cells #[.pointer none] 58)))
            have c3_ : Aside0 (Below g2 w (w3.alloc (.cells #[.pointer none] 58))) := ⟨HB3.out.trans ((bel1 w3 _).mono (Nat.le_of_lt (blk_lt BG.out)))⟩
            have c4_ : Aside0 (g2 < w3.heap.size) := ⟨blk_lt BG.out⟩
            have c5_ : Aside0 (ga2 ≠ w3.heap.size) := ⟨Nat.ne_of_lt (blk_lt BA.out)⟩
            generalize w3.heap.size = gv at BV c4_ c5_ ⊢
            generalize w3.alloc (.cells #[.pointer none] 58) = w4 at BV c1_ c2_ c3_ ⊢
            go_upto_region 11 with (go_at_call 20; refine (as_blk gv ga2 _ w4 (HL.out.below (by have h := c3_.out; rw [HG2.out] at h; exact h)) BV.out).mono ?_; rintro e w5 ⟨rfl, hv, hf⟩; have BV5 := Aside0.mk hv; have FR5 := Aside0.mk hf; clear hv hf)
            have d1_ := Aside0.mk (FR5.out.blk c1_.out (Nat.le_refl _) c5_.out)
            have d2_ := Aside0.mk (FR5.out.blk c2_.out (Nat.le_refl _) (by have := c4_.out; omega))
            have d3_ : Aside0 (Below g2 w w5) := ⟨c3_.out.trans (FR5.out.below (Nat.le_of_lt (blk_lt c2_.out)) (Nat.le_of_lt c4_.out))⟩
            have y0 : w5.cell? ⟨gv, 0, none⟩ = some (.pointer (some ⟨ga2, 0, none⟩)) := (blk_cell BV5.out 0).trans rfl
            have y1 : w5.cell? ⟨ga2, 0, none⟩ = some (.int .i64 c) := (blk_cell d1_.out 0).trans rfl
            have hwi : IntKind.i64.wrap ((i : Int) + 1) = (i : Int) + 1 := Go.IntWalk.i64_in _ (by have := HI.out; omega)
            have HNE : Aside0 (gv ≠ g2 ∧ ga2 ≠ g2) := ⟨by have := c4_.out; omega, by have := HGA.out; omega⟩
            clear c1_ c2_ c3_ c4_ c5_ BV BA BG HB3 BV5 FR5
            refine start_ (n := 10) (S := fun w' => w'.cell? ⟨gv, 0, none⟩ = some (.pointer (some ⟨ga2, 0, none⟩)) ∧ w'.cell? ⟨ga2, 0, none⟩ = some (.int .i64 c)) (ds := []) #[false, false, false, false, false, false, false, false, false, false] (by kernel_rfl) rfl rfl ⟨y0, y1⟩ (fun hHeld => ?_)
            refine with_tabW p11tab p11bits (fun HT_ HW_ => ?_)
            have e2_ := Aside0.mk (blk_drew d2_.out)
            have e3_ := Aside0.mk (below_drew1 d3_.out)
            generalize w5.drew = w6 at e2_ e3_ hHeld ⊢
            clear d1_ d2_ d3_ y0 y1
            refine pure_ (i := 0) (N := some 34) (v := ?_) (a' := ?_) #[true, false, false, false, false, false, false, false, false, false] rfl rfl (any_of HT_.out (by kernel_rfl)) (fun _ _ _ h => h) (Or.inl ⟨by rfl, ?_⟩) ?_ ?_
            rotate_left
            · intro w'
              go_simp
              with_reducible rfl
            rotate_left
            · simp only [Act.put, List.setIfInBounds_toArray, List.set_cons_zero, List.set_cons_succ, i64_w, i32_w]
              rfl
            refine pure_ (i := 1) (N := some 35) (v := ?_) (a' := ?_) #[true, true, false, false, false, false, false, false, false, false] rfl rfl (any_of HT_.out (by kernel_rfl)) (fun _ _ _ h => h) (Or.inl ⟨by rfl, ?_⟩) ?_ ?_
            rotate_left
            · intro w'
              go_simp
              with_reducible rfl
            rotate_left
            · simp only [Act.put, List.setIfInBounds_toArray, List.set_cons_zero, List.set_cons_succ, i64_w, i32_w]
              rfl
            refine pure_ (i := 2) (N := some 36) (v := ?_) (a' := ?_) #[true, true, true, false, false, false, false, false, false, false] rfl rfl (any_of HT_.out (by kernel_rfl)) (fun _ _ _ h => h) (Or.inl ⟨by rfl, ?_⟩) ?_ ?_
            rotate_left
            · intro w'
              go_simp
              with_reducible rfl
            rotate_left
            · simp only [Act.put, List.setIfInBounds_toArray, List.set_cons_zero, List.set_cons_succ, i64_w, i32_w]
              rfl
            refine take_ (i := 3) (N := some 37) (v := ?_) (a' := ?_) #[true, true, true, true, false, false, false, false, false, false] rfl rfl (take_ofW HT_.out HW_.out (by kernel_rfl)) (fun _ _ _ h => h) (Or.inl ⟨by rfl, ?_⟩) hHeld ?_ ?_
            rotate_left
            · rintro w' ⟨s0, s1⟩
              go_simp
              with_reducible rfl
            rotate_left
            · simp only [Act.put, List.setIfInBounds_toArray, List.set_cons_zero, List.set_cons_succ, i64_w, i32_w]
              rfl
            refine pure_ (i := 4) (N := some 38) (v := ?_) (a' := ?_) #[true, true, true, true, true, false, false, false, false, false] rfl rfl (any_of HT_.out (by kernel_rfl)) (fun _ _ _ h => h) (Or.inl ⟨by rfl, ?_⟩) ?_ ?_
            rotate_left
            · intro w'
              go_simp
              with_reducible rfl
            rotate_left
            · simp only [Act.put, List.setIfInBounds_toArray, List.set_cons_zero, List.set_cons_succ, i64_w, i32_w]
              rfl
            refine pure_ (i := 5) (N := some 39) (v := ?_) (a' := ?_) #[true, true, true, true, true, true, false, false, false, false] rfl rfl (any_of HT_.out (by kernel_rfl)) (fun _ _ _ h => h) (Or.inl ⟨by rfl, ?_⟩) ?_ ?_
            rotate_left
            · intro w'
              go_simp
              with_reducible rfl
            rotate_left
            · simp only [Act.put, List.setIfInBounds_toArray, List.set_cons_zero, List.set_cons_succ, i64_w, i32_w]
              rfl
            refine take_ (i := 6) (N := some 40) (v := ?_) (a' := ?_) #[true, true, true, true, true, true, true, false, false, false] rfl rfl (take_ofW HT_.out HW_.out (by kernel_rfl)) (fun _ _ _ h => h) (Or.inl ⟨by rfl, ?_⟩) hHeld ?_ ?_
            rotate_left
            · rintro w' ⟨s0, s1⟩
              go_simp
              with_reducible rfl
            rotate_left
            · simp only [Act.put, List.setIfInBounds_toArray, List.set_cons_zero, List.set_cons_succ, i64_w, i32_w]
              rfl
            have z0 : w6.cell? ⟨g2, 0, none⟩ = some (.int .i64 0) := (blk_cell e2_.out 0).trans rfl
            have zf0 : w6.frozen? ⟨g2, 0, none⟩ = false := blk_frozen e2_.out 0
            have z1 : w6.cell? ⟨g2, 1, none⟩ = some (.int .i64 0) := (blk_cell e2_.out 1).trans rfl
            have zf1 : w6.frozen? ⟨g2, 1, none⟩ = false := blk_frozen e2_.out 1
            have z2 : w6.cell? ⟨g2, 2, none⟩ = some (.int .i64 0) := (blk_cell e2_.out 2).trans rfl
            have zf2 : w6.frozen? ⟨g2, 2, none⟩ = false := blk_frozen e2_.out 2
            have z3 : w6.cell? ⟨g2, 3, none⟩ = some (.int .i64 0) := (blk_cell e2_.out 3).trans rfl
            have zf3 : w6.frozen? ⟨g2, 3, none⟩ = false := blk_frozen e2_.out 3
            have z4 : w6.cell? ⟨g2, 4, none⟩ = some (.int .i64 0) := (blk_cell e2_.out 4).trans rfl
            have zf4 : w6.frozen? ⟨g2, 4, none⟩ = false := blk_frozen e2_.out 4
            have z5 : w6.cell? ⟨g2, 5, none⟩ = some (.int .i64 0) := (blk_cell e2_.out 5).trans rfl
            have zf5 : w6.frozen? ⟨g2, 5, none⟩ = false := blk_frozen e2_.out 5
            have z6 : w6.cell? ⟨g2, 6, none⟩ = some (.int .i64 0) := (blk_cell e2_.out 6).trans rfl
            have zf6 : w6.frozen? ⟨g2, 6, none⟩ = false := blk_frozen e2_.out 6
            have z7 : w6.cell? ⟨g2, 7, none⟩ = some (.bool false) := (blk_cell e2_.out 7).trans rfl
            have zf7 : w6.frozen? ⟨g2, 7, none⟩ = false := blk_frozen e2_.out 7
            have z8 : w6.cell? ⟨g2, 8, none⟩ = some (.slice none 0 0) := (blk_cell e2_.out 8).trans rfl
            have zf8 : w6.frozen? ⟨g2, 8, none⟩ = false := blk_frozen e2_.out 8
            refine one_ (i := 7) (N := none) #[true, true, true, true, true, true, true, true, false, false] rfl rfl (one_of HT_.out (by kernel_rfl)) (by decide) (fun K hK => ?_)
            refine store_step (w1 := (((((((((w6.setCell ⟨g2, 0, none⟩ (.int .i64 0)).setCell ⟨g2, 1, none⟩ (.int .i64 0)).setCell ⟨g2, 2, none⟩ (.int .i64 0)).setCell ⟨g2, 3, none⟩ (.int .i64 0)).setCell ⟨g2, 4, none⟩ (.int .i64 0)).setCell ⟨g2, 5, none⟩ (.int .i64 0)).setCell ⟨g2, 6, none⟩ (.int .i64 0)).setCell ⟨g2, 7, none⟩ (.bool false)).setCell ⟨g2, 8, none⟩ (.slice none 0 0))) (by rfl) rfl (by first | (go_simp; done) | (go_simp; rfl)) ?_
            refine hK.out _ _ ⟨set9_cell hHeld.1 (by have := HNE.out; show gv ≠ g2; omega), set9_cell hHeld.2 (by have := HNE.out; show ga2 ≠ g2; omega)⟩ (fun hHeld => ?_)
            clear hK K
            clear z0 zf0 z1 zf1 z2 zf2 z3 zf3 z4 zf4 z5 zf5 z6 zf6 z7 zf7 z8 zf8
            have k2_ := Aside0.mk (set9_blk e2_.out)
            have k3_ : Aside0 (Below g2 w (((((((((w6.setCell ⟨g2, 0, none⟩ (.int .i64 0)).setCell ⟨g2, 1, none⟩ (.int .i64 0)).setCell ⟨g2, 2, none⟩ (.int .i64 0)).setCell ⟨g2, 3, none⟩ (.int .i64 0)).setCell ⟨g2, 4, none⟩ (.int .i64 0)).setCell ⟨g2, 5, none⟩ (.int .i64 0)).setCell ⟨g2, 6, none⟩ (.int .i64 0)).setCell ⟨g2, 7, none⟩ (.bool false)).setCell ⟨g2, 8, none⟩ (.slice none 0 0))) := ⟨set9_below e3_.out⟩
            generalize (((((((((w6.setCell ⟨g2, 0, none⟩ (.int .i64 0)).setCell ⟨g2, 1, none⟩ (.int .i64 0)).setCell ⟨g2, 2, none⟩ (.int .i64 0)).setCell ⟨g2, 3, none⟩ (.int .i64 0)).setCell ⟨g2, 4, none⟩ (.int .i64 0)).setCell ⟨g2, 5, none⟩ (.int .i64 0)).setCell ⟨g2, 6, none⟩ (.int .i64 0)).setCell ⟨g2, 7, none⟩ (.bool false)).setCell ⟨g2, 8, none⟩ (.slice none 0 0)) = w7 at k2_ k3_ ⊢
            refine pure_ (i := 8) (N := some 3) (v := ?_) (a' := ?_) #[true, true, true, true, true, true, true, true, true, false] rfl rfl (any_of HT_.out (by kernel_rfl)) (fun _ _ _ h => h) (Or.inl ⟨by rfl, ?_⟩) ?_ ?_
            rotate_left
            · intro w'
              go_simp
              with_reducible rfl
            rotate_left
            · simp only [Act.put, List.setIfInBounds_toArray, List.set_cons_zero, List.set_cons_succ, i64_w, i32_w]
              rfl
            refine pure_ (i := 9) (N := some 4) (v := ?_) (a' := ?_) #[true, true, true, true, true, true, true, true, true, true] rfl rfl (any_of HT_.out (by kernel_rfl)) (fun _ _ _ h => h) (Or.inl ⟨by rfl, ?_⟩) ?_ ?_
            rotate_left
            · intro w'
              go_simp
              with_reducible rfl
            rotate_left
            · simp only [Act.put, List.setIfInBounds_toArray, List.set_cons_zero, List.set_cons_succ, i64_w, i32_w]
              rfl
            refine done_ (done_of HT_.out (by kernel_rfl)) ?_
            go_wp2_with (fail)
            refine bodyPost_ret (results_ctt rfl _ _ g2 26 #[.int .i64 0, .int .i64 0, .int .i64 0, .int .i64 0, .int .i64 0, .int .i64 0, .int .i64 0, .bool false, .slice none 0 0] (0, 0) _ rfl k2_.out Tryd.underlying26 rfl (by kernel_rfl)) rfl ?_
            rw [HR2.out]
            exact ⟨none, 0, rfl, Kd.R_nil _ _ _ _ _, by have h := k3_.out; rw [HG2.out] at h; exact h⟩
          · go_upto_region 9 with (first
              | (go_at_call 17; refine (cut_any l _ HLW.out HLS.out).mono ?_; rw [HCL.out]; rintro e w1 ⟨rfl, hb⟩; have B1 := Aside0.mk hb; clear hb)
              | (go_at_call 18; refine (word_any _).mono ?_; rintro e w2 ⟨rfl, hw2⟩; obtain ⟨ga, hga⟩ : ∃ k, k = w1.heap.size := ⟨_, rfl⟩; rw [← hga]; have GA : Aside0 (ga = w1.heap.size) := ⟨hga⟩; have H170 : Aside0 (w2.heap[ga]? = some (.cells #[.int .i64 170] 62 (0, 0))) := ⟨by rw [hw2, hga]; exact heap_alloc_new _ _⟩; have B2 : Aside0 (Below wr.heap.size wr w2) := ⟨by rw [hw2]; exact below_step B1.out (bel1 _ _)⟩; clear hw2 hga)
              | (go_at_call 19; refine (reads_any i HI.out g5 s v (mkB pa) w2 w HL.out (by have h := HB.out; rw [HG2.out] at h; exact below_then h h.size B2.out) (by have h1 := HG2.out; have h2 := HG5.out; omega) (blk_below BS.out B2.out) (Kd.R_below HR.out B2.out) (by rw [mkB_size]; exact HPL.out.1)).mono ?_; rw [HRO.out]; rintro e w3 ⟨⟨ga2, rfl, h1, h2⟩, hb⟩; have BA := Aside0.mk h1; have HGA2 := Aside0.mk h2; have B3 := Aside0.mk hb; clear h1 h2 hb))
            have HGA : Aside0 (g2 < ga2) := ⟨by have h1 := HGA2.out; have h2 := HG5.out; omega⟩
            have n1_ : Aside0 (w3.heap[g2]? = some (.cells #[.int .i64 0, .int .i64 0, .int .i64 0, .int .i64 0, .int .i64 0, .int .i64 0, .int .i64 0, .bool false, .slice none 0 0] 26 (0, 0))) := ⟨(B3.out.block g2 (by have := HG5.out; omega)).trans (blk_below BG.out B2.out)⟩
            have HB3 : Aside0 (Below g2 w w3) := ⟨(HB.out.trans (B2.out.mono (Nat.le_of_lt (blk_lt BG.out)))).trans (B3.out.mono (by have := HG5.out; omega))⟩
            clear BG B1 B2 B3 GA HCL BS HR HB hq HRO HGA2 H170
            have BG := n1_
            clear n1_
            go_upto_region 10 with (fail)
            have BV := Aside0.mk (heap_alloc_new w3 (.cells #[.pointer none] 58))
            have c1_ := Aside0.mk (blk_below BA.out (bel1 w3 (.cells #[.pointer none] 58)))
            have c2_ := Aside0.mk (blk_below BG.out (bel1 w3 (.cells #[.pointer none] 58)))
            have c3_ : Aside0 (Below g2 w (w3.alloc (.cells #[.pointer none] 58))) := ⟨HB3.out.trans ((bel1 w3 _).mono (Nat.le_of_lt (blk_lt BG.out)))⟩
            have c4_ : Aside0 (g2 < w3.heap.size) := ⟨blk_lt BG.out⟩
            have c5_ : Aside0 (ga2 ≠ w3.heap.size) := ⟨Nat.ne_of_lt (blk_lt BA.out)⟩
            generalize w3.heap.size = gv at BV c4_ c5_ ⊢
            generalize w3.alloc (.cells #[.pointer none] 58) = w4 at BV c1_ c2_ c3_ ⊢
            go_upto_region 11 with (go_at_call 20; refine (as_blk gv ga2 _ w4 (HL.out.below (by have h := c3_.out; rw [HG2.out] at h; exact h)) BV.out).mono ?_; rintro e w5 ⟨rfl, hv, hf⟩; have BV5 := Aside0.mk hv; have FR5 := Aside0.mk hf; clear hv hf)
            have d1_ := Aside0.mk (FR5.out.blk c1_.out (Nat.le_refl _) c5_.out)
            have d2_ := Aside0.mk (FR5.out.blk c2_.out (Nat.le_refl _) (by have := c4_.out; omega))
            have d3_ : Aside0 (Below g2 w w5) := ⟨c3_.out.trans (FR5.out.below (Nat.le_of_lt (blk_lt c2_.out)) (Nat.le_of_lt c4_.out))⟩
            have y0 : w5.cell? ⟨gv, 0, none⟩ = some (.pointer (some ⟨ga2, 0, none⟩)) := (blk_cell BV5.out 0).trans rfl
            have y1 : w5.cell? ⟨ga2, 0, none⟩ = some (.int .i64 c) := (blk_cell d1_.out 0).trans rfl
            have hwi : IntKind.i64.wrap ((i : Int) + 1) = (i : Int) + 1 := Go.IntWalk.i64_in _ (by have := HI.out; omega)
            have HNE : Aside0 (gv ≠ g2 ∧ ga2 ≠ g2) := ⟨by have := c4_.out; omega, by have := HGA.out; omega⟩
            clear c1_ c2_ c3_ c4_ c5_ BV BA BG HB3 BV5 FR5
            refine start_ (n := 10) (S := fun w' => w'.cell? ⟨gv, 0, none⟩ = some (.pointer (some ⟨ga2, 0, none⟩)) ∧ w'.cell? ⟨ga2, 0, none⟩ = some (.int .i64 c)) (ds := []) #[false, false, false, false, false, false, false, false, false, false] (by kernel_rfl) rfl rfl ⟨y0, y1⟩ (fun hHeld => ?_)
            refine with_tabW p11tab p11bits (fun HT_ HW_ => ?_)
            have e2_ := Aside0.mk (blk_drew d2_.out)
            have e3_ := Aside0.mk (below_drew1 d3_.out)
            generalize w5.drew = w6 at e2_ e3_ hHeld ⊢
            clear d1_ d2_ d3_ y0 y1
            refine pure_ (i := 0) (N := some 34) (v := ?_) (a' := ?_) #[true, false, false, false, false, false, false, false, false, false] rfl rfl (any_of HT_.out (by kernel_rfl)) (fun _ _ _ h => h) (Or.inl ⟨by rfl, ?_⟩) ?_ ?_
            rotate_left
            · intro w'
              go_simp
              with_reducible rfl
            rotate_left
            · simp only [Act.put, List.setIfInBounds_toArray, List.set_cons_zero, List.set_cons_succ, i64_w, i32_w]
              rfl
            refine pure_ (i := 1) (N := some 35) (v := ?_) (a' := ?_) #[true, true, false, false, false, false, false, false, false, false] rfl rfl (any_of HT_.out (by kernel_rfl)) (fun _ _ _ h => h) (Or.inl ⟨by rfl, ?_⟩) ?_ ?_
            rotate_left
            · intro w'
              go_simp
              with_reducible rfl
            rotate_left
            · simp only [Act.put, List.setIfInBounds_toArray, List.set_cons_zero, List.set_cons_succ, i64_w, i32_w]
              rfl
            refine pure_ (i := 2) (N := some 36) (v := ?_) (a' := ?_) #[true, true, true, false, false, false, false, false, false, false] rfl rfl (any_of HT_.out (by kernel_rfl)) (fun _ _ _ h => h) (Or.inl ⟨by rfl, ?_⟩) ?_ ?_
            rotate_left
            · intro w'
              go_simp
              with_reducible rfl
            rotate_left
            · simp only [Act.put, List.setIfInBounds_toArray, List.set_cons_zero, List.set_cons_succ, i64_w, i32_w]
              rfl
            refine take_ (i := 3) (N := some 37) (v := ?_) (a' := ?_) #[true, true, true, true, false, false, false, false, false, false] rfl rfl (take_ofW HT_.out HW_.out (by kernel_rfl)) (fun _ _ _ h => h) (Or.inl ⟨by rfl, ?_⟩) hHeld ?_ ?_
            rotate_left
            · rintro w' ⟨s0, s1⟩
              go_simp
              with_reducible rfl
            rotate_left
            · simp only [Act.put, List.setIfInBounds_toArray, List.set_cons_zero, List.set_cons_succ, i64_w, i32_w]
              rfl
            refine pure_ (i := 4) (N := some 38) (v := ?_) (a' := ?_) #[true, true, true, true, true, false, false, false, false, false] rfl rfl (any_of HT_.out (by kernel_rfl)) (fun _ _ _ h => h) (Or.inl ⟨by rfl, ?_⟩) ?_ ?_
            rotate_left
            · intro w'
              go_simp
              with_reducible rfl
            rotate_left
            · simp only [Act.put, List.setIfInBounds_toArray, List.set_cons_zero, List.set_cons_succ, i64_w, i32_w]
              rfl
            refine pure_ (i := 5) (N := some 39) (v := ?_) (a' := ?_) #[true, true, true, true, true, true, false, false, false, false] rfl rfl (any_of HT_.out (by kernel_rfl)) (fun _ _ _ h => h) (Or.inl ⟨by rfl, ?_⟩) ?_ ?_
            rotate_left
            · intro w'
              go_simp
              with_reducible rfl
            rotate_left
            · simp only [Act.put, List.setIfInBounds_toArray, List.set_cons_zero, List.set_cons_succ, i64_w, i32_w]
              rfl
            refine take_ (i := 6) (N := some 40) (v := ?_) (a' := ?_) #[true, true, true, true, true, true, true, false, false, false] rfl rfl (take_ofW HT_.out HW_.out (by kernel_rfl)) (fun _ _ _ h => h) (Or.inl ⟨by rfl, ?_⟩) hHeld ?_ ?_
            rotate_left
            · rintro w' ⟨s0, s1⟩
              go_simp
              with_reducible rfl
            rotate_left
            · simp only [Act.put, List.setIfInBounds_toArray, List.set_cons_zero, List.set_cons_succ, i64_w, i32_w]
              rfl
            have z0 : w6.cell? ⟨g2, 0, none⟩ = some (.int .i64 0) := (blk_cell e2_.out 0).trans rfl
            have zf0 : w6.frozen? ⟨g2, 0, none⟩ = false := blk_frozen e2_.out 0
            have z1 : w6.cell? ⟨g2, 1, none⟩ = some (.int .i64 0) := (blk_cell e2_.out 1).trans rfl
            have zf1 : w6.frozen? ⟨g2, 1, none⟩ = false := blk_frozen e2_.out 1
            have z2 : w6.cell? ⟨g2, 2, none⟩ = some (.int .i64 0) := (blk_cell e2_.out 2).trans rfl
            have zf2 : w6.frozen? ⟨g2, 2, none⟩ = false := blk_frozen e2_.out 2
            have z3 : w6.cell? ⟨g2, 3, none⟩ = some (.int .i64 0) := (blk_cell e2_.out 3).trans rfl
            have zf3 : w6.frozen? ⟨g2, 3, none⟩ = false := blk_frozen e2_.out 3
            have z4 : w6.cell? ⟨g2, 4, none⟩ = some (.int .i64 0) := (blk_cell e2_.out 4).trans rfl
            have zf4 : w6.frozen? ⟨g2, 4, none⟩ = false := blk_frozen e2_.out 4
            have z5 : w6.cell? ⟨g2, 5, none⟩ = some (.int .i64 0) := (blk_cell e2_.out 5).trans rfl
            have zf5 : w6.frozen? ⟨g2, 5, none⟩ = false := blk_frozen e2_.out 5
            have z6 : w6.cell? ⟨g2, 6, none⟩ = some (.int .i64 0) := (blk_cell e2_.out 6).trans rfl
            have zf6 : w6.frozen? ⟨g2, 6, none⟩ = false := blk_frozen e2_.out 6
            have z7 : w6.cell? ⟨g2, 7, none⟩ = some (.bool false) := (blk_cell e2_.out 7).trans rfl
            have zf7 : w6.frozen? ⟨g2, 7, none⟩ = false := blk_frozen e2_.out 7
            have z8 : w6.cell? ⟨g2, 8, none⟩ = some (.slice none 0 0) := (blk_cell e2_.out 8).trans rfl
            have zf8 : w6.frozen? ⟨g2, 8, none⟩ = false := blk_frozen e2_.out 8
            refine one_ (i := 7) (N := none) #[true, true, true, true, true, true, true, true, false, false] rfl rfl (one_of HT_.out (by kernel_rfl)) (by decide) (fun K hK => ?_)
            refine store_step (w1 := (((((((((w6.setCell ⟨g2, 0, none⟩ (.int .i64 0)).setCell ⟨g2, 1, none⟩ (.int .i64 0)).setCell ⟨g2, 2, none⟩ (.int .i64 0)).setCell ⟨g2, 3, none⟩ (.int .i64 0)).setCell ⟨g2, 4, none⟩ (.int .i64 0)).setCell ⟨g2, 5, none⟩ (.int .i64 0)).setCell ⟨g2, 6, none⟩ (.int .i64 0)).setCell ⟨g2, 7, none⟩ (.bool false)).setCell ⟨g2, 8, none⟩ (.slice none 0 0))) (by rfl) rfl (by first | (go_simp; done) | (go_simp; rfl)) ?_
            refine hK.out _ _ ⟨set9_cell hHeld.1 (by have := HNE.out; show gv ≠ g2; omega), set9_cell hHeld.2 (by have := HNE.out; show ga2 ≠ g2; omega)⟩ (fun hHeld => ?_)
            clear hK K
            clear z0 zf0 z1 zf1 z2 zf2 z3 zf3 z4 zf4 z5 zf5 z6 zf6 z7 zf7 z8 zf8
            have k2_ := Aside0.mk (set9_blk e2_.out)
            have k3_ : Aside0 (Below g2 w (((((((((w6.setCell ⟨g2, 0, none⟩ (.int .i64 0)).setCell ⟨g2, 1, none⟩ (.int .i64 0)).setCell ⟨g2, 2, none⟩ (.int .i64 0)).setCell ⟨g2, 3, none⟩ (.int .i64 0)).setCell ⟨g2, 4, none⟩ (.int .i64 0)).setCell ⟨g2, 5, none⟩ (.int .i64 0)).setCell ⟨g2, 6, none⟩ (.int .i64 0)).setCell ⟨g2, 7, none⟩ (.bool false)).setCell ⟨g2, 8, none⟩ (.slice none 0 0))) := ⟨set9_below e3_.out⟩
            generalize (((((((((w6.setCell ⟨g2, 0, none⟩ (.int .i64 0)).setCell ⟨g2, 1, none⟩ (.int .i64 0)).setCell ⟨g2, 2, none⟩ (.int .i64 0)).setCell ⟨g2, 3, none⟩ (.int .i64 0)).setCell ⟨g2, 4, none⟩ (.int .i64 0)).setCell ⟨g2, 5, none⟩ (.int .i64 0)).setCell ⟨g2, 6, none⟩ (.int .i64 0)).setCell ⟨g2, 7, none⟩ (.bool false)).setCell ⟨g2, 8, none⟩ (.slice none 0 0)) = w7 at k2_ k3_ ⊢
            refine pure_ (i := 8) (N := some 3) (v := ?_) (a' := ?_) #[true, true, true, true, true, true, true, true, true, false] rfl rfl (any_of HT_.out (by kernel_rfl)) (fun _ _ _ h => h) (Or.inl ⟨by rfl, ?_⟩) ?_ ?_
            rotate_left
            · intro w'
              go_simp
              with_reducible rfl
            rotate_left
            · simp only [Act.put, List.setIfInBounds_toArray, List.set_cons_zero, List.set_cons_succ, i64_w, i32_w]
              rfl
            refine pure_ (i := 9) (N := some 4) (v := ?_) (a' := ?_) #[true, true, true, true, true, true, true, true, true, true] rfl rfl (any_of HT_.out (by kernel_rfl)) (fun _ _ _ h => h) (Or.inl ⟨by rfl, ?_⟩) ?_ ?_
            rotate_left
            · intro w'
              go_simp
              with_reducible rfl
            rotate_left
            · simp only [Act.put, List.setIfInBounds_toArray, List.set_cons_zero, List.set_cons_succ, i64_w, i32_w]
              rfl
            refine done_ (done_of HT_.out (by kernel_rfl)) ?_
            go_wp2_with (fail)
            refine bodyPost_ret (results_ctt rfl _ _ g2 26 #[.int .i64 0, .int .i64 0, .int .i64 0, .int .i64 0, .int .i64 0, .int .i64 0, .int .i64 0, .bool false, .slice none 0 0] (0, 0) _ rfl k2_.out Tryd.underlying26 rfl (by kernel_rfl)) rfl ?_
            rw [HR2.out]
            exact ⟨none, 0, rfl, Kd.R_nil _ _ _ _ _, by have h := k3_.out; rw [HG2.out] at h; exact h⟩
        | ok s2 =>
          have HRO := Aside0.mk hro
          have HP2 : Aside0 (ro = parseRun m (i + 1) s2 pb) := ⟨by rw [HRU.out, HCL.out]; show (match readsOf i s (mkB pa) with | .error c => (scr0, i + 1, c) | .ok s' => parseRun m (i + 1) s' pb) = _; rw [HRO.out]⟩
          clear hro HRU
          rcases hq with ⟨hq, hq2⟩ | hq
          · go_upto_region 9 with (first
              | (go_at_call 17; refine (cut_any l _ HLW.out HLS.out).mono ?_; rw [HCL.out]; rintro e w1 ⟨rfl, hb⟩; have B1 := Aside0.mk hb; clear hb)
              | (go_at_call 18; refine (word_any _).mono ?_; rintro e w2 ⟨rfl, hw2⟩; obtain ⟨ga, hga⟩ : ∃ k, k = w1.heap.size := ⟨_, rfl⟩; rw [← hga]; have GA : Aside0 (ga = w1.heap.size) := ⟨hga⟩; have H170 : Aside0 (w2.heap[ga]? = some (.cells #[.int .i64 170] 62 (0, 0))) := ⟨by rw [hw2, hga]; exact heap_alloc_new _ _⟩; have B2 : Aside0 (Below wr.heap.size wr w2) := ⟨by rw [hw2]; exact below_step B1.out (bel1 _ _)⟩; clear hw2 hga)
              | (go_at_call 19; refine (reads_any i HI.out g5 s v (mkB pa) w2 w HL.out (by have h := HB.out; rw [HG2.out] at h; exact below_then h h.size B2.out) (by have h1 := HG2.out; have h2 := HG5.out; omega) (blk_below BS.out B2.out) (Kd.R_below HR.out B2.out) (by rw [mkB_size]; exact HPL.out.1)).mono ?_; rw [HRO.out]; rintro e w3 ⟨rfl, ⟨v2, h1, h2⟩, hb⟩; have BS3 := Aside0.mk h1; have HR3 := Aside0.mk h2; have B3 := Aside0.mk hb; clear h1 h2 hb))
            have n1_ : Aside0 (w3.heap[g2]? = some (.cells #[.int .i64 0, .int .i64 0, .int .i64 0, .int .i64 0, .int .i64 0, .int .i64 0, .int .i64 0, .bool false, .slice none 0 0] 26 (0, 0))) := ⟨(B3.out.block g2 (by have := HG5.out; omega)).trans (blk_below BG.out B2.out)⟩
            have HB3 : Aside0 (Below g2 w w3) := ⟨(HB.out.trans (B2.out.mono (Nat.le_of_lt (blk_lt BG.out)))).trans (B3.out.mono (by have := HG5.out; omega))⟩
            have c1_ := Aside0.mk (blk_below n1_.out (bel1 w3 (.cells #[.pointer none] 58)))
            have c2_ := Aside0.mk (blk_below BS3.out (bel1 w3 (.cells #[.pointer none] 58)))
            have c3_ : Aside0 (Below g2 w (w3.alloc (.cells #[.pointer none] 58))) := ⟨HB3.out.trans ((bel1 w3 _).mono (Nat.le_of_lt (blk_lt n1_.out)))⟩
            have c4_ := Aside0.mk (Kd.R_below HR3.out (bel1 w3 (.cells #[.pointer none] 58)))
            have hwi : IntKind.i64.wrap ((i : Int) + 1) = (i : Int) + 1 := Go.IntWalk.i64_in _ (by have := HI.out; omega)
            clear BG B1 B2 B3 GA HCL BS HR HB hq HRO H170 BS3 HR3 n1_ HB3
            go_wp2_with (go_at_call 20; refine (as_nil _ _).mono ?_; rintro e w5 ⟨rfl, hw5⟩; have HW5 := Aside0.mk hw5; clear hw5)
            have hw5 := HW5.out
            subst hw5
            have hpl := HPL.out
            have hil := HIL.out
            have hlm := HLM.out
            go_roundw
            case rel => exact ⟨i + 1, m, pb, s2, v2, rfl, by go_num, by omega, by omega, HP2, c2_, c4_, c1_, c3_⟩
            case measure => simp [intOf]; omega
          · go_upto_region 9 with (first
              | (go_at_call 17; refine (cut_any l _ HLW.out HLS.out).mono ?_; rw [HCL.out]; rintro e w1 ⟨rfl, hb⟩; have B1 := Aside0.mk hb; clear hb)
              | (go_at_call 18; refine (word_any _).mono ?_; rintro e w2 ⟨rfl, hw2⟩; obtain ⟨ga, hga⟩ : ∃ k, k = w1.heap.size := ⟨_, rfl⟩; rw [← hga]; have GA : Aside0 (ga = w1.heap.size) := ⟨hga⟩; have H170 : Aside0 (w2.heap[ga]? = some (.cells #[.int .i64 170] 62 (0, 0))) := ⟨by rw [hw2, hga]; exact heap_alloc_new _ _⟩; have B2 : Aside0 (Below wr.heap.size wr w2) := ⟨by rw [hw2]; exact below_step B1.out (bel1 _ _)⟩; clear hw2 hga)
              | (go_at_call 19; refine (reads_any i HI.out g5 s v (mkB pa) w2 w HL.out (by have h := HB.out; rw [HG2.out] at h; exact below_then h h.size B2.out) (by have h1 := HG2.out; have h2 := HG5.out; omega) (blk_below BS.out B2.out) (Kd.R_below HR.out B2.out) (by rw [mkB_size]; exact HPL.out.1)).mono ?_; rw [HRO.out]; rintro e w3 ⟨rfl, ⟨v2, h1, h2⟩, hb⟩; have BS3 := Aside0.mk h1; have HR3 := Aside0.mk h2; have B3 := Aside0.mk hb; clear h1 h2 hb))
            have n1_ : Aside0 (w3.heap[g2]? = some (.cells #[.int .i64 0, .int .i64 0, .int .i64 0, .int .i64 0, .int .i64 0, .int .i64 0, .int .i64 0, .bool false, .slice none 0 0] 26 (0, 0))) := ⟨(B3.out.block g2 (by have := HG5.out; omega)).trans (blk_below BG.out B2.out)⟩
            have HB3 : Aside0 (Below g2 w w3) := ⟨(HB.out.trans (B2.out.mono (Nat.le_of_lt (blk_lt BG.out)))).trans (B3.out.mono (by have := HG5.out; omega))⟩
            have c1_ := Aside0.mk (blk_below n1_.out (bel1 w3 (.cells #[.pointer none] 58)))
            have c2_ := Aside0.mk (blk_below BS3.out (bel1 w3 (.cells #[.pointer none] 58)))
            have c3_ : Aside0 (Below g2 w (w3.alloc (.cells #[.pointer none] 58))) := ⟨HB3.out.trans ((bel1 w3 _).mono (Nat.le_of_lt (blk_lt n1_.out)))⟩
            have c4_ := Aside0.mk (Kd.R_below HR3.out (bel1 w3 (.cells #[.pointer none] 58)))
            have hwi : IntKind.i64.wrap ((i : Int) + 1) = (i : Int) + 1 := Go.IntWalk.i64_in _ (by have := HI.out; omega)
            clear BG B1 B2 B3 GA HCL BS HR HB hq HRO H170 BS3 HR3 n1_ HB3
            go_wp2_with (go_at_call 20; refine (as_nil _ _).mono ?_; rintro e w5 ⟨rfl, hw5⟩; have HW5 := Aside0.mk hw5; clear hw5)
            have hw5 := HW5.out
            subst hw5
            have hpl := HPL.out
            have hil := HIL.out
            have hlm := HLM.out
            go_roundw
            case rel => exact ⟨i + 1, m, pb, s2, v2, rfl, by go_num, by omega, by omega, HP2, c2_, c4_, c1_, c3_⟩
            case measure => simp [intOf]; omega
theorem parse_any (t : ByteArray) (w : World) (hL : LW w) (hs : t.size < 4294967281) : Calls Tryd.prog 10 #[.string t] w (ParseSays w (parseOf t)) := parse_list t.data.toList w hL hs
end Go.Proofs.YtmoebchaiokamaaDoor.Given
