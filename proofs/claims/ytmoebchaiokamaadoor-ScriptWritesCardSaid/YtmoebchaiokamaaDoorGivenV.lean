/- The walk of the law ScriptBack: what Print wrote Parse reads, and what Parse read Print writes. -/
import Derived.Test.YtmoebchaiokamaaDoorGivenQ
import Derived.Test.YtmoebchaiokamaaDoorPlainF
import Derived.Deep.DeepCutAuto
namespace Go.Proofs.YtmoebchaiokamaaDoor.Given
open Go.RowKit Go.Proofs.YtmoebchaiokamaaDoorW.PrintWords Go.Proofs.YtmoebchaiokamaaDoorW.PrintLast Go.Proofs.YtmoebchaiokamaaDoorW.PrintMore Go.Proofs.YtmoebchaiokamaaDoor.Print
set_option linter.unusedVariables false
set_option linter.unusedSimpArgs false
theorem picks_go (l : List S29) (hl : l.length ≤ 4611686018427387904) : ∀ (n j : Nat), j + n = l.length → squintlaw17_picks.l0 (n + 1) l l (j : Int) = some true
  | 0, j, h => by
    rw [squintlaw17_picks.l0, if_neg (by omega)]
  | n + 1, j, h => by
    rw [squintlaw17_picks.l0, if_pos (by omega), if_pos (by omega), if_pos (by omega), if_neg (by simp), show wrap64 ((j : Int) + 1) = ((j + 1 : Nat) : Int) by simp only [wrap64]; omega]
    exact picks_go l hl n (j + 1) (by omega)
theorem picks_self (l : List S29) (hl : l.length ≤ 4611686018427387904) : ∃ k, squintlaw17_picks.f k l l = some true := ⟨l.length + 1, by
  unfold squintlaw17_picks.f
  rw [if_pos rfl]
  exact picks_go l hl l.length 0 (Nat.zero_add _)⟩
theorem same_self (s : Scr) (hl : s.picks.length ≤ 4611686018427387904) : ∃ k, squintlaw17_same.f k s.lim.f0 s.lim.f1 s.lim.f2 s.lim.f3 s.lim.f4 s.lim.f5 s.lim.f6 s.reap s.picks s.lim.f0 s.lim.f1 s.lim.f2 s.lim.f3 s.lim.f4 s.lim.f5 s.lim.f6 s.reap s.picks = some true := by
  obtain ⟨k, hk⟩ := picks_self s.picks hl
  refine ⟨k, ?_⟩
  unfold squintlaw17_same.f
  rw [hk]
  simp
/-- Parse, its answer written out. -/
theorem parse_lit (t : ByteArray) (w : World) (hL : LW w) (hs : t.size < 4294967281) (s : Scr) (ln : Nat) (code : Int) (h : parseOf t = (s, ln, code)) : Calls Tryd.prog 10 #[.string t] w fun e w' => ∃ (A : Option Addr) (c : Nat), e = .returned (.tuple #[.agg #[.int .i64 s.lim.f0, .int .i64 s.lim.f1, .int .i64 s.lim.f2, .int .i64 s.lim.f3, .int .i64 s.lim.f4, .int .i64 s.lim.f5, .int .i64 s.lim.f6, .bool s.reap, .slice A s.picks.length c], .int .i64 (ln : Int), .int .i64 code]) ∧ Kd.C k29 w' A s.picks.length s.picks ∧ s.picks.length ≤ c ∧ Below w.heap.size w w' := by
  refine (parse_any t w hL hs).mono ?_
  rw [h]
  rintro e w' ⟨A, c, rfl, hR, hb⟩
  obtain ⟨h1, h2, h3⟩ := Kd.R_reads' hR
  exact ⟨A, c, rfl, h3, h2, hb⟩
theorem print_lit (A : Option Addr) (c : Nat) (s : Scr) (w : World) (hr : Kd.C k29 w A s.picks.length s.picks) (hL : LW w) (hrg : rngS s) (t : ByteArray) (code : Int) (h : printOf s = (t, code)) : Calls Tryd.prog 7 #[.agg #[.int .i64 s.lim.f0, .int .i64 s.lim.f1, .int .i64 s.lim.f2, .int .i64 s.lim.f3, .int .i64 s.lim.f4, .int .i64 s.lim.f5, .int .i64 s.lim.f6, .bool s.reap, .slice A s.picks.length c]] w fun e w' => e = .returned (.tuple #[.string t, .int .i64 code]) ∧ Below w.heap.size w w' := by
  have h2 := print_any A c s w hr hL hrg
  rw [h] at h2
  exact h2
set_option maxRecDepth 100000 in
set_option maxHeartbeats 8000000 in
theorem back_walk (A : Option Addr) (c : Nat) (s : Scr) (text : ByteArray) (w : World) (hr : Kd.C k29 w A s.picks.length s.picks) (hc : s.picks.length ≤ c) (hL : LW w) (hrg : rngS s) (hpl : s.picks.length ≤ 4611686018427387904) (hs : text.size < 4294967281) :
    Calls Tryd.prog 4 #[.agg #[.int .i64 s.lim.f0, .int .i64 s.lim.f1, .int .i64 s.lim.f2, .int .i64 s.lim.f3, .int .i64 s.lim.f4, .int .i64 s.lim.f5, .int .i64 s.lim.f6, .bool s.reap, .slice A s.picks.length c], .string text] w fun e w' => e = .returned (.bool true) ∧ Below w.heap.size w w' := by
  have hu26 := Tryd.underlying26
  have HR := Aside0.mk hr
  have HC := Aside0.mk hc
  have HL := Aside0.mk hL
  have HRG := Aside0.mk hrg
  have HS := Aside0.mk hs
  obtain ⟨t, code, hp⟩ : ∃ t code, printOf s = (t, code) := ⟨_, _, rfl⟩
  have HP := Aside0.mk hp
  obtain ⟨ks, hks⟩ := same_self s hpl
  have HKS := Aside0.mk hks
  have BS0 := Aside0.mk (heap_alloc_new w (.cells #[.int .i64 s.lim.f0, .int .i64 s.lim.f1, .int .i64 s.lim.f2, .int .i64 s.lim.f3, .int .i64 s.lim.f4, .int .i64 s.lim.f5, .int .i64 s.lim.f6, .bool s.reap, .slice A s.picks.length c] 26))
  have B0 := Aside0.mk (bel1 w (.cells #[.int .i64 s.lim.f0, .int .i64 s.lim.f1, .int .i64 s.lim.f2, .int .i64 s.lim.f3, .int .i64 s.lim.f4, .int .i64 s.lim.f5, .int .i64 s.lim.f6, .bool s.reap, .slice A s.picks.length c] 26))
  clear hr hc hL hrg hs hp hks
  go_enter Tryd.func4, Tryd.ntmps4
  go_upto_region 1 with (fail)
  obtain ⟨g, hg⟩ : ∃ k, k = w.heap.size := ⟨_, rfl⟩
  rw [← hg] at BS0 ⊢
  clear hg
  generalize w.alloc (.cells #[.int .i64 s.lim.f0, .int .i64 s.lim.f1, .int .i64 s.lim.f2, .int .i64 s.lim.f3, .int .i64 s.lim.f4, .int .i64 s.lim.f5, .int .i64 s.lim.f6, .bool s.reap, .slice A s.picks.length c] 26) = w0 at BS0 B0 ⊢
  go_upto_if 24 with (first
    | (go_at_call 6; refine (shown_true w0 (HL.out.below B0.out)).mono ?_; rintro e w1 ⟨rfl, hb⟩; have B1 := Aside0.mk (below_step B0.out hb); have BS := Aside0.mk (blk_below BS0.out hb); clear hb)
    | (refine wpList_load_row rfl 26 (.tmp 2) rfl g rfl 26 #[.int .i64 s.lim.f0, .int .i64 s.lim.f1, .int .i64 s.lim.f2, .int .i64 s.lim.f3, .int .i64 s.lim.f4, .int .i64 s.lim.f5, .int .i64 s.lim.f6, .bool s.reap, .slice A s.picks.length c] (0, 0) _ BS.out Tryd.underlying26 rfl (by kernel_rfl) ?_)
    | (go_at_call 7; refine (print_lit A c s w1 (Kd.C_below HR.out B1.out) (HL.out.below B1.out) HRG.out t code HP.out).mono ?_; rintro e w2 ⟨rfl, hb⟩; have B2 := Aside0.mk (below_step B1.out hb); have BS2 := Aside0.mk (blk_below BS.out hb); clear hb))
  clear BS0 BS B0 B1
  go_cut [11] (fun _ wc => Aside0 (Below w.heap.size w wc))
  case first =>
    by_cases h0 : code = 0
    · subst h0
      have HPT := Aside0.mk (parse_there s t HP.out HRG.out)
      have HPS : Aside0 (t.size < 4294967281) := ⟨Nat.lt_of_le_of_lt (print_len s t HP.out HRG.out) (by decide)⟩
      go_upto_region 5 with (go_at_call 10; refine (parse_lit t w2 (HL.out.below B2.out) HPS.out s 0 0 HPT.out).mono ?_; rintro e w3 ⟨As, cs, rfl, h1, h2, hb⟩; have HC3 := Aside0.mk h1; have HCS := Aside0.mk h2; have B3 := Aside0.mk (below_step B2.out hb); have BS3 := Aside0.mk (blk_below BS2.out hb); clear h1 h2 hb)
      have BX : Aside0 ((w3.alloc (.cells #[.int .i64 s.lim.f0, .int .i64 s.lim.f1, .int .i64 s.lim.f2, .int .i64 s.lim.f3, .int .i64 s.lim.f4, .int .i64 s.lim.f5, .int .i64 s.lim.f6, .bool s.reap, .slice As s.picks.length cs] 26)).heap[w3.heap.size]? = some (.cells #[.int .i64 s.lim.f0, .int .i64 s.lim.f1, .int .i64 s.lim.f2, .int .i64 s.lim.f3, .int .i64 s.lim.f4, .int .i64 s.lim.f5, .int .i64 s.lim.f6, .bool s.reap, .slice As s.picks.length cs] 26 (0, 0))) := ⟨heap_alloc_new _ _⟩
      have n1_ := Aside0.mk (blk_below BS3.out (bel1 w3 (.cells #[.int .i64 s.lim.f0, .int .i64 s.lim.f1, .int .i64 s.lim.f2, .int .i64 s.lim.f3, .int .i64 s.lim.f4, .int .i64 s.lim.f5, .int .i64 s.lim.f6, .bool s.reap, .slice As s.picks.length cs] 26)))
      have n2_ := Aside0.mk (below_step B3.out (bel1 w3 (.cells #[.int .i64 s.lim.f0, .int .i64 s.lim.f1, .int .i64 s.lim.f2, .int .i64 s.lim.f3, .int .i64 s.lim.f4, .int .i64 s.lim.f5, .int .i64 s.lim.f6, .bool s.reap, .slice As s.picks.length cs] 26)))
      have n3_ := Aside0.mk (Kd.C_below HC3.out (bel1 w3 (.cells #[.int .i64 s.lim.f0, .int .i64 s.lim.f1, .int .i64 s.lim.f2, .int .i64 s.lim.f3, .int .i64 s.lim.f4, .int .i64 s.lim.f5, .int .i64 s.lim.f6, .bool s.reap, .slice As s.picks.length cs] 26)))
      generalize w3.alloc (.cells #[.int .i64 s.lim.f0, .int .i64 s.lim.f1, .int .i64 s.lim.f2, .int .i64 s.lim.f3, .int .i64 s.lim.f4, .int .i64 s.lim.f5, .int .i64 s.lim.f6, .bool s.reap, .slice As s.picks.length cs] 26) = w4 at BX n1_ n2_ n3_ ⊢
      generalize w3.heap.size = gx at BX ⊢
      clear HC3 B3 BS3 BS2
      go_wp2_with (first
        | (refine wpList_load_row rfl 26 (.tmp 8) rfl gx rfl 26 #[.int .i64 s.lim.f0, .int .i64 s.lim.f1, .int .i64 s.lim.f2, .int .i64 s.lim.f3, .int .i64 s.lim.f4, .int .i64 s.lim.f5, .int .i64 s.lim.f6, .bool s.reap, .slice As s.picks.length cs] (0, 0) _ BX.out Tryd.underlying26 rfl (by kernel_rfl) ?_)
        | (refine wpList_load_row rfl 26 (.tmp 2) rfl g rfl 26 #[.int .i64 s.lim.f0, .int .i64 s.lim.f1, .int .i64 s.lim.f2, .int .i64 s.lim.f3, .int .i64 s.lim.f4, .int .i64 s.lim.f5, .int .i64 s.lim.f6, .bool s.reap, .slice A s.picks.length c] (0, 0) _ n1_.out Tryd.underlying26 rfl (by kernel_rfl) ?_)
        | (go_at_call 11; refine (squintlaw17_same.calls ks s.lim.f0 s.lim.f1 s.lim.f2 s.lim.f3 s.lim.f4 s.lim.f5 s.lim.f6 s.reap As cs s.picks s.lim.f0 s.lim.f1 s.lim.f2 s.lim.f3 s.lim.f4 s.lim.f5 s.lim.f6 s.reap A c s.picks true w4 n3_.out HCS.out (Kd.C_below HR.out n2_.out) HC.out HKS.out).mono ?_; rintro e w5 ⟨rfl, hb⟩; have B5 := Aside0.mk (below_step n2_.out hb); clear hb))
      go_meet
      case rel => exact B5
    · have h1 : (code == 0) = false := beq_eq_false_iff_ne.2 h0
      go_wp2_with (fail)
      go_meet
      case rel => exact B2
  case rest =>
    obtain ⟨wr, rfl⟩ : ∃ z : World, z = wc := ⟨_, rfl⟩
    have HB := Aside0.mk hcut.out
    clear hcut BS2 B2 HP HKS
    obtain ⟨x, ln, cd, hq⟩ : ∃ x ln cd, parseOf text = (x, ln, cd) := ⟨_, _, _, rfl⟩
    have HQ := Aside0.mk hq
    by_cases h0 : cd = 0
    · subst h0
      obtain ⟨e1, e2, e3⟩ := parse_back text x ln hq
      subst e1
      have HX2 := Aside0.mk e2
      have HX3 := Aside0.mk e3
      have hqt : (text.toList == text.toList) = true := beq_iff_eq.2 rfl
      clear hq e2 e3
      go_upto_region 9 with (go_at_call 10; refine (parse_lit text wr (HL.out.below HB.out) HS.out x 0 0 HQ.out).mono ?_; rintro e w6 ⟨Ax, cx, rfl, h1, h2, hb⟩; have HC6 := Aside0.mk h1; have B6 := Aside0.mk (below_step HB.out hb); clear h1 h2 hb)
      have BX : Aside0 ((w6.alloc (.cells #[.int .i64 x.lim.f0, .int .i64 x.lim.f1, .int .i64 x.lim.f2, .int .i64 x.lim.f3, .int .i64 x.lim.f4, .int .i64 x.lim.f5, .int .i64 x.lim.f6, .bool x.reap, .slice Ax x.picks.length cx] 26)).heap[w6.heap.size]? = some (.cells #[.int .i64 x.lim.f0, .int .i64 x.lim.f1, .int .i64 x.lim.f2, .int .i64 x.lim.f3, .int .i64 x.lim.f4, .int .i64 x.lim.f5, .int .i64 x.lim.f6, .bool x.reap, .slice Ax x.picks.length cx] 26 (0, 0))) := ⟨heap_alloc_new _ _⟩
      have n2_ := Aside0.mk (below_step B6.out (bel1 w6 (.cells #[.int .i64 x.lim.f0, .int .i64 x.lim.f1, .int .i64 x.lim.f2, .int .i64 x.lim.f3, .int .i64 x.lim.f4, .int .i64 x.lim.f5, .int .i64 x.lim.f6, .bool x.reap, .slice Ax x.picks.length cx] 26)))
      have n3_ := Aside0.mk (Kd.C_below HC6.out (bel1 w6 (.cells #[.int .i64 x.lim.f0, .int .i64 x.lim.f1, .int .i64 x.lim.f2, .int .i64 x.lim.f3, .int .i64 x.lim.f4, .int .i64 x.lim.f5, .int .i64 x.lim.f6, .bool x.reap, .slice Ax x.picks.length cx] 26)))
      generalize w6.alloc (.cells #[.int .i64 x.lim.f0, .int .i64 x.lim.f1, .int .i64 x.lim.f2, .int .i64 x.lim.f3, .int .i64 x.lim.f4, .int .i64 x.lim.f5, .int .i64 x.lim.f6, .bool x.reap, .slice Ax x.picks.length cx] 26) = w7 at BX n2_ n3_ ⊢
      generalize w6.heap.size = gx at BX ⊢
      clear HC6 B6
      go_wp2_with (first
        | (refine wpList_load_row rfl 26 (.tmp 12) rfl gx rfl 26 #[.int .i64 x.lim.f0, .int .i64 x.lim.f1, .int .i64 x.lim.f2, .int .i64 x.lim.f3, .int .i64 x.lim.f4, .int .i64 x.lim.f5, .int .i64 x.lim.f6, .bool x.reap, .slice Ax x.picks.length cx] (0, 0) _ BX.out Tryd.underlying26 rfl (by kernel_rfl) ?_)
        | (go_at_call 7; refine (print_lit Ax cx x w7 n3_.out (HL.out.below n2_.out) HX2.out text 0 HX3.out).mono ?_; rintro e w8 ⟨rfl, hb⟩; have B8 := Aside0.mk (below_step n2_.out hb); clear hb))
      go_ret
      exact ⟨rfl, B8.out⟩
    · have h1 : (cd == 0) = false := beq_eq_false_iff_ne.2 h0
      have he : 0 < ln ∧ x.picks = [] := run_err _ 0 scr0 _ x ln cd hq h0
      obtain ⟨he1, he2⟩ := he
      have hd : decide ((ln : Int) > 0) = true := decide_eq_true (by omega)
      have hd2 : decide (0 < ln) = true := decide_eq_true he1
      obtain ⟨xl, xr, xp⟩ := x
      dsimp only at he2
      subst he2
      clear hq h0
      go_upto_region 9 with (go_at_call 10; refine (parse_lit text wr (HL.out.below HB.out) HS.out ⟨xl, xr, []⟩ ln cd HQ.out).mono ?_; rintro e w6 ⟨Ax, cx, rfl, h1, h2, hb⟩; have B6 := Aside0.mk (below_step HB.out hb); clear h1 h2 hb)
      have BX : Aside0 ((w6.alloc (.cells #[.int .i64 xl.f0, .int .i64 xl.f1, .int .i64 xl.f2, .int .i64 xl.f3, .int .i64 xl.f4, .int .i64 xl.f5, .int .i64 xl.f6, .bool xr, .slice Ax 0 cx] 26)).heap[w6.heap.size]? = some (.cells #[.int .i64 xl.f0, .int .i64 xl.f1, .int .i64 xl.f2, .int .i64 xl.f3, .int .i64 xl.f4, .int .i64 xl.f5, .int .i64 xl.f6, .bool xr, .slice Ax 0 cx] 26 (0, 0))) := ⟨heap_alloc_new _ _⟩
      have n2_ := Aside0.mk (below_step B6.out (bel1 w6 (.cells #[.int .i64 xl.f0, .int .i64 xl.f1, .int .i64 xl.f2, .int .i64 xl.f3, .int .i64 xl.f4, .int .i64 xl.f5, .int .i64 xl.f6, .bool xr, .slice Ax 0 cx] 26)))
      generalize w6.alloc (.cells #[.int .i64 xl.f0, .int .i64 xl.f1, .int .i64 xl.f2, .int .i64 xl.f3, .int .i64 xl.f4, .int .i64 xl.f5, .int .i64 xl.f6, .bool xr, .slice Ax 0 cx] 26) = w7 at BX n2_ ⊢
      generalize w6.heap.size = gx at BX ⊢
      have x8 : w7.cell? ⟨gx, 8, none⟩ = some (.slice Ax 0 cx) := (blk_cell BX.out 8).trans rfl
      clear B6
      go_wp2_with (fail)
      go_ret
      exact ⟨rfl, n2_.out⟩
end Go.Proofs.YtmoebchaiokamaaDoor.Given
