/- script.Print at any script. What it asks: the library's tables lie as they were laid; the numbers are Go's. -/
import Derived.Test.YtmoebchaiokamaaDoorGivenN
namespace Go.Proofs.YtmoebchaiokamaaDoor.Given
open Go.RowKit Go.Proofs.YtmoebchaiokamaaDoorW.PrintWords Go.Proofs.YtmoebchaiokamaaDoorW.PrintLast Go.Proofs.YtmoebchaiokamaaDoorW.PrintMore Go.Proofs.YtmoebchaiokamaaDoor.Print
set_option linter.unusedVariables false
set_option linter.unusedSimpArgs false
def limL (x : Lim) : List Int := [x.f0, x.f1, x.f2, x.f3, x.f4, x.f5, x.f6]
/-- Numbers written behind a text, each behind a space. -/
def spAll : ByteArray → List Int → ByteArray
  | acc, [] => acc
  | acc, n :: l => spAll (acc ++ spI n) l
theorem spAll_snoc : ∀ (l : List Int) (acc : ByteArray) (n : Int), spAll acc (l ++ [n]) = spAll acc l ++ spI n
  | [], _, _ => rfl
  | a :: l, acc, n => spAll_snoc l (acc ++ spI a) n
theorem spAll_len : ∀ (l : List Int) (acc : ByteArray), (∀ n ∈ l, okN n) → (spAll acc l).size ≤ acc.size + 21 * l.length
  | [], acc, _ => by simp [spAll]
  | a :: l, acc, h => by
    have h1 := spAll_len l (acc ++ spI a) (fun n hn => h n (List.mem_cons_of_mem _ hn))
    have h2 := spI_len a (h a (List.mem_cons_self ..))
    rw [size_append] at h1
    rw [spAll, List.length_cons]
    omega
def reapT (b : Bool) : ByteArray := if b = true then ⟨#[114, 101, 97, 112, 10]⟩ else ⟨#[107, 101, 101, 112, 10]⟩
/-- The first two lines. -/
def headOf (s : Scr) : ByteArray := spAll ⟨#[108, 105, 109, 105, 116, 115]⟩ (limL s.lim) ++ ⟨#[10]⟩ ++ reapT s.reap
def linesFrom : ByteArray → List S29 → Option ByteArray
  | acc, [] => some acc
  | acc, p :: r => match lineP p with
    | some b => linesFrom (acc ++ (b ++ ⟨#[10]⟩)) r
    | none => none
theorem lines_some {acc b : ByteArray} {p : S29} {r : List S29} (h : lineP p = some b) : linesFrom acc (p :: r) = linesFrom (acc ++ (b ++ ⟨#[10]⟩)) r := by simp only [linesFrom, h]
theorem lines_none {acc : ByteArray} {p : S29} {r : List S29} (h : lineP p = none) : linesFrom acc (p :: r) = none := by simp only [linesFrom, h]
/-- What Print answers. -/
def printOf (s : Scr) : ByteArray × Int := if 4096 < s.picks.length then (⟨#[]⟩, 172) else match linesFrom (headOf s) s.picks with
  | some t => (t, 0)
  | none => (⟨#[]⟩, 171)
/-- The numbers of a script are Go's. -/
def rngS (s : Scr) : Prop := (∀ n ∈ limL s.lim, okN n) ∧ ∀ p ∈ s.picks, okN p.f1 ∧ okN p.f2
theorem lineP_len (p : S29) (h1 : okN p.f1) (h2 : okN p.f2) (b : ByteArray) (h : lineP p = some b) : b.size ≤ 50 := by
  have := spI_len _ h1
  have := spI_len _ h2
  have e4 : (⟨#[115, 116, 101, 112]⟩ : ByteArray).size = 4 := rfl
  have e2 : (⟨#[105, 110]⟩ : ByteArray).size = 2 := rfl
  have e3 : (⟨#[111, 117, 116]⟩ : ByteArray).size = 3 := rfl
  have e5 : (⟨#[112, 114, 111, 98, 101]⟩ : ByteArray).size = 5 := rfl
  unfold lineP lineT at h
  repeat' split at h
  all_goals first
    | cases h; done
    | (injection h with h; rw [← h]; simp only [size_append]; omega)
    | (injection h with h; rw [← h]; omega)
theorem head_len (s : Scr) (h : rngS s) : (headOf s).size ≤ 200 := by
  have h1 := spAll_len (limL s.lim) ⟨#[108, 105, 109, 105, 116, 115]⟩ h.1
  have e6 : (⟨#[108, 105, 109, 105, 116, 115]⟩ : ByteArray).size = 6 := rfl
  have e1 : (⟨#[10]⟩ : ByteArray).size = 1 := rfl
  have e5 : (reapT s.reap).size = 5 := by unfold reapT; cases s.reap <;> rfl
  have el : (limL s.lim).length = 7 := rfl
  unfold headOf
  rw [size_append, size_append]
  omega
theorem blt {b : Nat} {bs : List Value} {w : World} (h : Lib.IsBuilder 42 5 b b bs w) : b < w.heap.size := by
  rcases h with h | h
  · exact h.lt
  · exact h.lt
theorem below_allocG {b : Nat} {w w1 : World} (h : Below b w w1) (o : Obj) (hb : b < w1.heap.size) : Below b w (w1.alloc o) := h.trans ((bel1 w1 o).mono (Nat.le_of_lt hb))
set_option maxRecDepth 100000 in
set_option maxHeartbeats 4000000 in
theorem print_many (A : Option Addr) (c : Nat) (s : Scr) (w : World) (hr : Kd.C k29 w A s.picks.length s.picks) (hL : LW w) (hrg : rngS s) (hm : 4096 < s.picks.length) :
    Calls Tryd.prog 7 #[.agg (scC s.lim s.reap (.slice A s.picks.length c))] w fun e w' => e = .returned (.tuple #[.string (printOf s).1, .int .i64 (printOf s).2]) ∧ Below w.heap.size w w' := by
  have HP : Aside0 (printOf s = (⟨#[]⟩, 172)) := ⟨if_pos hm⟩
  have hd : decide (4096 < s.picks.length) = true := decide_eq_true hm
  have hd2 : decide (((s.picks.length : Nat) : Int) > 4096) = true := decide_eq_true (by omega)
  have x8 : (w.alloc (.cells (scC s.lim s.reap (.slice A s.picks.length c)) 26)).cell? ⟨w.heap.size, 8, none⟩ = some (.slice A s.picks.length c) := (blk_cell (heap_alloc_new w _) 8).trans rfl
  go_enter Tryd.func7, Tryd.ntmps7
  go_wp2_with (fail)
  go_ret2
  rw [HP.out]
  exact ⟨rfl, bel1 w _⟩
set_option maxRecDepth 100000 in
set_option maxHeartbeats 16000000 in
theorem print_few (A : Option Addr) (c : Nat) (s : Scr) (w : World) (hr : Kd.C k29 w A s.picks.length s.picks) (hL : LW w) (hrg : rngS s) (hm : ¬ 4096 < s.picks.length) :
    Calls Tryd.prog 7 #[.agg (scC s.lim s.reap (.slice A s.picks.length c))] w fun e w' => e = .returned (.tuple #[.string (printOf s).1, .int .i64 (printOf s).2]) ∧ Below w.heap.size w w' := by
  have hd : decide (4096 < s.picks.length) = false := decide_eq_false hm
  have hd2 : decide (((s.picks.length : Nat) : Int) > 4096) = false := decide_eq_false (by omega)
  have HP : Aside0 (printOf s = match linesFrom (headOf s) s.picks with
    | some t => (t, 0)
    | none => (⟨#[]⟩, 171)) := ⟨if_neg hm⟩
  generalize printOf s = ro at HP ⊢
  have HM := Aside0.mk hm
  have HR := Aside0.mk hr
  have HL := Aside0.mk hL
  have HRG := Aside0.mk hrg
  have HHL := Aside0.mk (head_len s hrg)
  have x8 : (w.alloc (.cells (scC s.lim s.reap (.slice A s.picks.length c)) 26)).cell? ⟨w.heap.size, 8, none⟩ = some (.slice A s.picks.length c) := (blk_cell (heap_alloc_new w _) 8).trans rfl
  have b0 : Aside0 ((w.alloc (.cells (scC s.lim s.reap (.slice A s.picks.length c)) 26)).heap[w.heap.size]? = some (.cells (scC s.lim s.reap (.slice A s.picks.length c)) 26 (0, 0))) := ⟨heap_alloc_new w _⟩
  have b1 := Aside0.mk (bel1 w (.cells (scC s.lim s.reap (.slice A s.picks.length c)) 26))
  clear hr hL hrg hm
  go_enter Tryd.func7, Tryd.ntmps7
  go_upto_region 3 with (fail)
  obtain ⟨g0, hg0⟩ : ∃ k, k = w.heap.size := ⟨_, rfl⟩
  have G0 := Aside0.mk hg0
  rw [← hg0] at b0 x8 ⊢
  generalize w.alloc (.cells (scC s.lim s.reap (.slice A s.picks.length c)) 26) = w1 at b0 b1 x8 ⊢
  clear hg0 x8
  have BL0 : Aside0 (Lib.IsBuilder 42 5 w1.heap.size w1.heap.size (Lib.strCells ⟨#[]⟩) (w1.alloc (.cells #[.pointer none, .slice none 0 0] 42))) := ⟨show Lib.IsBuilder 42 5 _ _ [] _ from Lib.fresh_isBuilder 42 5 w1⟩
  have HB0 : Aside0 (Below w1.heap.size w1 (w1.alloc (.cells #[.pointer none, .slice none 0 0] 42))) := ⟨bel1 w1 _⟩
  go_upto_region 4 with (fail)
  obtain ⟨gb, hgb⟩ : ∃ k, k = w1.heap.size := ⟨_, rfl⟩
  have GB := Aside0.mk hgb
  rw [← hgb] at BL0 HB0 ⊢
  generalize w1.alloc (.cells #[.pointer none, .slice none 0 0] 42) = w2 at BL0 HB0 ⊢
  have BL := BL0
  have HB := HB0
  have G01 : Aside0 (g0 < gb) := ⟨by rw [hgb]; exact blk_lt b0.out⟩
  clear hgb BL0 HB0
  go_upto_region 5 with ((go_at_call 12; refine (write_on gb ⟨#[]⟩ ⟨#[108, 105, 109, 105, 116, 115]⟩ _ BL.out (by show 0 + 6 ≤ _; omega)).mono ?_; rintro e w9 ⟨rfl, h1, h2, h3⟩; have n1_ := Aside0.mk h1; have n2_ := Aside0.mk (HB.out.trans h2); have n3_ := Aside0.mk h3; clear h1 h2 h3 BL HB; have BL := n1_; have HB := n2_; have KO := n3_; clear n1_ n2_ n3_))
  have b2 := Aside0.mk (HB.out.block g0 G01.out |>.trans b0.out)
  have x0 : w9.cell? ⟨g0, 0, none⟩ = some (.int .i64 s.lim.f0) := (blk_cell b2.out 0).trans rfl
  have x1 : w9.cell? ⟨g0, 1, none⟩ = some (.int .i64 s.lim.f1) := (blk_cell b2.out 1).trans rfl
  have x2 : w9.cell? ⟨g0, 2, none⟩ = some (.int .i64 s.lim.f2) := (blk_cell b2.out 2).trans rfl
  have x3 : w9.cell? ⟨g0, 3, none⟩ = some (.int .i64 s.lim.f3) := (blk_cell b2.out 3).trans rfl
  have x4 : w9.cell? ⟨g0, 4, none⟩ = some (.int .i64 s.lim.f4) := (blk_cell b2.out 4).trans rfl
  have x5 : w9.cell? ⟨g0, 5, none⟩ = some (.int .i64 s.lim.f5) := (blk_cell b2.out 5).trans rfl
  have x6 : w9.cell? ⟨g0, 6, none⟩ = some (.int .i64 s.lim.f6) := (blk_cell b2.out 6).trans rfl
  go_upto_region 6 with (fail)
  have LC : Aside0 ((w9.alloc (.cells #[.int .i64 s.lim.f0, .int .i64 s.lim.f1, .int .i64 s.lim.f2, .int .i64 s.lim.f3, .int .i64 s.lim.f4, .int .i64 s.lim.f5, .int .i64 s.lim.f6] 23)).heap[w9.heap.size]? = some (.cells #[.int .i64 s.lim.f0, .int .i64 s.lim.f1, .int .i64 s.lim.f2, .int .i64 s.lim.f3, .int .i64 s.lim.f4, .int .i64 s.lim.f5, .int .i64 s.lim.f6] 23 (0, 0))) := ⟨heap_alloc_new _ _⟩
  have n1_ := Aside0.mk (builder_below BL.out (bel1 w9 (.cells #[.int .i64 s.lim.f0, .int .i64 s.lim.f1, .int .i64 s.lim.f2, .int .i64 s.lim.f3, .int .i64 s.lim.f4, .int .i64 s.lim.f5, .int .i64 s.lim.f6] 23)))
  have n2_ : Aside0 (Below gb w1 (w9.alloc (.cells #[.int .i64 s.lim.f0, .int .i64 s.lim.f1, .int .i64 s.lim.f2, .int .i64 s.lim.f3, .int .i64 s.lim.f4, .int .i64 s.lim.f5, .int .i64 s.lim.f6] 23))) := ⟨below_allocG HB.out (.cells #[.int .i64 s.lim.f0, .int .i64 s.lim.f1, .int .i64 s.lim.f2, .int .i64 s.lim.f3, .int .i64 s.lim.f4, .int .i64 s.lim.f5, .int .i64 s.lim.f6] 23) (blt BL.out)⟩
  generalize w9.alloc (.cells #[.int .i64 s.lim.f0, .int .i64 s.lim.f1, .int .i64 s.lim.f2, .int .i64 s.lim.f3, .int .i64 s.lim.f4, .int .i64 s.lim.f5, .int .i64 s.lim.f6] 23) = w10 at LC n1_ n2_ ⊢
  generalize w9.heap.size = gl at LC ⊢
  clear BL HB KO x0 x1 x2 x3 x4 x5 x6 b2 hd hd2
  have BL := n1_
  have HB := n2_
  clear n1_ n2_
  have y0 : w10.cell? ⟨gl, 0, none⟩ = some (.int .i64 s.lim.f0) := (blk_cell LC.out 0).trans rfl
  have y1 : w10.cell? ⟨gl, 1, none⟩ = some (.int .i64 s.lim.f1) := (blk_cell LC.out 1).trans rfl
  have y2 : w10.cell? ⟨gl, 2, none⟩ = some (.int .i64 s.lim.f2) := (blk_cell LC.out 2).trans rfl
  have y3 : w10.cell? ⟨gl, 3, none⟩ = some (.int .i64 s.lim.f3) := (blk_cell LC.out 3).trans rfl
  have y4 : w10.cell? ⟨gl, 4, none⟩ = some (.int .i64 s.lim.f4) := (blk_cell LC.out 4).trans rfl
  have y5 : w10.cell? ⟨gl, 5, none⟩ = some (.int .i64 s.lim.f5) := (blk_cell LC.out 5).trans rfl
  have y6 : w10.cell? ⟨gl, 6, none⟩ = some (.int .i64 s.lim.f6) := (blk_cell LC.out 6).trans rfl
  have GS : Aside0 ((w10.alloc (.cells #[.int .i64 s.lim.f0, .int .i64 s.lim.f1, .int .i64 s.lim.f2, .int .i64 s.lim.f3, .int .i64 s.lim.f4, .int .i64 s.lim.f5, .int .i64 s.lim.f6] 3)).heap[w10.heap.size]? = some (.cells ((limL s.lim).map (Value.int .i64)).toArray 3 (0, 0))) := ⟨heap_alloc_new _ _⟩
  have n1_ := Aside0.mk (builder_below BL.out (bel1 w10 (.cells #[.int .i64 s.lim.f0, .int .i64 s.lim.f1, .int .i64 s.lim.f2, .int .i64 s.lim.f3, .int .i64 s.lim.f4, .int .i64 s.lim.f5, .int .i64 s.lim.f6] 3)))
  have n2_ : Aside0 (Below gb w1 (w10.alloc (.cells #[.int .i64 s.lim.f0, .int .i64 s.lim.f1, .int .i64 s.lim.f2, .int .i64 s.lim.f3, .int .i64 s.lim.f4, .int .i64 s.lim.f5, .int .i64 s.lim.f6] 3))) := ⟨below_allocG HB.out (.cells #[.int .i64 s.lim.f0, .int .i64 s.lim.f1, .int .i64 s.lim.f2, .int .i64 s.lim.f3, .int .i64 s.lim.f4, .int .i64 s.lim.f5, .int .i64 s.lim.f6] 3) (blt BL.out)⟩
  go_upto_region 7 with (fail)
  generalize w10.alloc (.cells #[.int .i64 s.lim.f0, .int .i64 s.lim.f1, .int .i64 s.lim.f2, .int .i64 s.lim.f3, .int .i64 s.lim.f4, .int .i64 s.lim.f5, .int .i64 s.lim.f6] 3) = w11 at GS n1_ n2_ ⊢
  generalize w10.heap.size = gs at GS ⊢
  clear BL HB y0 y1 y2 y3 y4 y5 y6 LC
  have BL : Aside0 (Lib.IsBuilder 42 5 gb gb (Lib.strCells ⟨#[108, 105, 109, 105, 116, 115]⟩) w11) := n1_
  have HB := n2_
  clear n1_ n2_
  go_loopw [35] (fun v35 wr => ∃ j : Nat, v35 = .int .i64 j ∧ j ≤ 7 ∧ Aside0 (Lib.IsBuilder 42 5 gb gb (Lib.strCells (spAll ⟨#[108, 105, 109, 105, 116, 115]⟩ ((limL s.lim).take j))) wr) ∧ Aside0 (Below gb w1 wr) ∧ Aside0 (wr.heap[gs]? = some (.cells ((limL s.lim).map (Value.int .i64)).toArray 3 (0, 0)))) (fun v35 _ => 7 - (intOf v35).toNat)
  case atStart => exact ⟨0, rfl, by omega, BL, HB, GS⟩
  case round =>
    clear BL HB GS
    obtain ⟨j, rfl, hj, BL, HB, GS⟩ := hrel
    by_cases hlt : j < 7
    · obtain ⟨n, hn⟩ : ∃ n, (limL s.lim)[j]? = some n := ⟨_, List.getElem?_eq_getElem hlt⟩
      have HN := Aside0.mk hn
      have x0 : wr.cell? ⟨gs, j, none⟩ = some (.int .i64 n) := by rw [blk_cell GS.out j]; simp [hn]
      have HON := Aside0.mk (HRG.out.1 n (List.mem_of_getElem? hn))
      have HTX : Aside0 (spAll ⟨#[108, 105, 109, 105, 116, 115]⟩ ((limL s.lim).take (j + 1)) = spAll ⟨#[108, 105, 109, 105, 116, 115]⟩ ((limL s.lim).take j) ++ spI n) := ⟨by rw [List.take_add_one, hn]; exact spAll_snoc _ _ _⟩
      have HLW : Aside0 (LW wr) := ⟨HL.out.below (b1.out.trans (HB.out.mono (by rw [GB.out]; exact b1.out.size)))⟩
      have z1 := itoa_len n HON.out
      have z2 := spI_len n HON.out
      have z3 := spAll_len ((limL s.lim).take j) ⟨#[108, 105, 109, 105, 116, 115]⟩ (fun q hq => HRG.out.1 q (List.mem_of_mem_take hq))
      have hz3 : (spAll ⟨#[108, 105, 109, 105, 116, 115]⟩ ((limL s.lim).take j)).size ≤ 200 := by
        have e6 : (⟨#[108, 105, 109, 105, 116, 115]⟩ : ByteArray).size = 6 := rfl
        have : ((limL s.lim).take j).length ≤ 7 := by rw [List.length_take]; omega
        omega
      have HZ := Aside0.mk (show (spAll ⟨#[108, 105, 109, 105, 116, 115]⟩ ((limL s.lim).take j)).size + (spI n).size ≤ 140737488355328 by omega)
      have HSP : Aside0 (spI n = ⟨#[32]⟩ ++ itoaB n) := ⟨rfl⟩
      clear hn z2 z3 hz3
      go_wp2_with (first
        | (go_at_call 13; refine (itoa_any n HON.out _ HLW.out).mono ?_; rintro e w12 ⟨rfl, hb⟩; have n1_ := Aside0.mk (builder_below BL.out hb); have n2_ : Aside0 (Below gb w1 w12) := ⟨HB.out.trans (hb.mono (Nat.le_of_lt (blt BL.out)))⟩; have n3_ := Aside0.mk (blk_below GS.out hb); clear hb BL HB GS; have BL := n1_; have HB := n2_; have GS := n3_; clear n1_ n2_ n3_)
        | (go_at_call 12; refine (write_on gb (spAll ⟨#[108, 105, 109, 105, 116, 115]⟩ ((limL s.lim).take j)) (spI n) _ BL.out HZ.out).mono ?_; rintro e w13 ⟨rfl, h1, h2, h3⟩; have n1_ := Aside0.mk h1; have n2_ := Aside0.mk (HB.out.trans h2); have n3_ := Aside0.mk (h3 _ _ _ (by decide) (by decide) GS.out); clear h1 h2 h3 BL HB GS; have BL := n1_; have HB := n2_; have GS := n3_; clear n1_ n2_ n3_))
      go_roundw
      case rel => exact ⟨j + 1, by go_num, by omega, ⟨by rw [HTX.out]; exact BL.out⟩, HB, GS⟩
      case measure => simp [intOf]; omega
    · obtain rfl : j = 7 := by omega
      obtain ⟨w14, rfl⟩ : ∃ w14 : World, w14 = wr := ⟨_, rfl⟩
      have HPR : Aside0 (spAll ⟨#[108, 105, 109, 105, 116, 115]⟩ ((limL s.lim).take 7) = spAll ⟨#[108, 105, 109, 105, 116, 115]⟩ (limL s.lim)) := ⟨rfl⟩
      rw [HPR.out] at BL
      have HZ : Aside0 ((spAll ⟨#[108, 105, 109, 105, 116, 115]⟩ (limL s.lim)).size ≤ 199) := ⟨by
        have h := HHL.out
        unfold headOf at h
        rw [size_append, size_append] at h
        have e1 : (⟨#[10]⟩ : ByteArray).size = 1 := rfl
        omega⟩
      have b2 := Aside0.mk (HB.out.block g0 G01.out |>.trans b0.out)
      clear GS HPR hlt hj
      go_upto_region 12 with ((go_at_call 12; refine (write_on gb (spAll ⟨#[108, 105, 109, 105, 116, 115]⟩ (limL s.lim)) ⟨#[10]⟩ _ BL.out (by have := HZ.out; have : (⟨#[10]⟩ : ByteArray).size = 1 := rfl; omega)).mono ?_; rintro e w15 ⟨rfl, h1, h2, h3⟩; have n1_ := Aside0.mk h1; have n2_ := Aside0.mk (HB.out.trans h2); clear h1 h2 h3 BL HB; have BL := n1_; have HB := n2_; clear n1_ n2_))
      cases hrp : s.reap with
      | false =>
        have HE : Aside0 (headOf s = spAll ⟨#[108, 105, 109, 105, 116, 115]⟩ (limL s.lim) ++ ⟨#[10]⟩ ++ ⟨#[107, 101, 101, 112, 10]⟩) := ⟨by unfold headOf reapT; rw [hrp]; rfl⟩
        have b2 := Aside0.mk (HB.out.block g0 G01.out |>.trans b0.out)
        rw [hrp] at b2
        have q7 : w15.cell? ⟨g0, 7, none⟩ = some (.bool false) := (blk_cell b2.out 7).trans rfl
        have HZ2 : Aside0 ((spAll ⟨#[108, 105, 109, 105, 116, 115]⟩ (limL s.lim) ++ ⟨#[10]⟩).size + (⟨#[107, 101, 101, 112, 10]⟩ : ByteArray).size ≤ 200) := ⟨by have h := HHL.out; rw [HE.out, size_append] at h; exact h⟩
        clear hrp
        go_upto_region 15 with (go_at_call 12; refine (write_on gb (spAll ⟨#[108, 105, 109, 105, 116, 115]⟩ (limL s.lim) ++ ⟨#[10]⟩) ⟨#[107, 101, 101, 112, 10]⟩ _ BL.out (Nat.le_trans HZ2.out (by decide))).mono ?_; rintro e w16 ⟨rfl, h1, h2, h3⟩; have n1_ := Aside0.mk h1; have n2_ := Aside0.mk (HB.out.trans h2); clear h1 h2 h3 BL HB; have BL := n1_; have HB := n2_; clear n1_ n2_)
        rw [← HE.out] at BL
        have b3 := Aside0.mk (HB.out.block g0 G01.out |>.trans b0.out)
        have q8 : w16.cell? ⟨g0, 8, none⟩ = some (.slice A s.picks.length c) := (blk_cell b3.out 8).trans rfl
        clear q7 b2 HZ HZ2 HE
        go_wp2_with (fail)
        clear q8
        go_loopw [52] (fun v52 wr => ∃ (j : Nat) (acc : ByteArray), v52 = .int .i64 j ∧ j ≤ s.picks.length ∧ Aside0 (acc.size ≤ 200 + 60 * j) ∧ Aside0 (ro = match linesFrom acc (s.picks.drop j) with | some t => (t, 0) | none => (⟨#[]⟩, 171)) ∧ Aside0 (Lib.IsBuilder 42 5 gb gb (Lib.strCells acc) wr) ∧ Aside0 (Below gb w1 wr)) (fun v52 _ => s.picks.length - (intOf v52).toNat)
        case atStart => exact ⟨0, headOf s, rfl, by omega, ⟨by have := HHL.out; omega⟩, HP, BL, HB⟩
        case round =>
          clear BL HB HP
          obtain ⟨j, acc, rfl, hj, HA, HP, BL, HB⟩ := hrel
          obtain ⟨wr2, rfl⟩ : ∃ z : World, z = wr := ⟨_, rfl⟩
          have hm := HM.out
          have HBW : Aside0 (Below w.heap.size w wr2) := ⟨b1.out.trans (HB.out.mono (by rw [GB.out]; exact b1.out.size))⟩
          by_cases hlt : j < s.picks.length
          · obtain ⟨p, hp⟩ : ∃ p, s.picks[j]? = some p := ⟨_, List.getElem?_eq_getElem hlt⟩
            obtain ⟨ad, hA, x0, x1, x2⟩ := at_T29 HR.out (j : Int) (by omega) (by omega)
            have hel : rd_T29 s.picks j = p := by
              unfold rd_T29
              rw [Int.toNat_natCast, List.getD_eq_getElem?_getD, hp]
              rfl
            rw [hel, Int.toNat_natCast] at x0 x1 x2
            obtain ⟨k, n, v⟩ := p
            dsimp only at x0 x1 x2
            replace x0 := pw_cell_below HBW.out x0
            replace x1 := pw_cell_below HBW.out x1
            replace x2 := pw_cell_below HBW.out x2
            have HON : Aside0 (okN n ∧ okN v) := ⟨HRG.out.2 _ (List.mem_of_getElem? hp)⟩
            have HDR : Aside0 (s.picks.drop j = ⟨k, n, v⟩ :: s.picks.drop (j + 1)) := ⟨by obtain ⟨hl, he⟩ := List.getElem?_eq_some_iff.1 hp; rw [← he]; exact List.drop_eq_getElem_cons hl⟩
            have BP := Aside0.mk (heap_alloc_new wr2 (.cells #[.int .i64 k, .int .i64 n, .int .i64 v] 29))
            have n1_ := Aside0.mk (builder_below BL.out (bel1 wr2 (.cells #[.int .i64 k, .int .i64 n, .int .i64 v] 29)))
            have n2_ : Aside0 (Below gb w1 (wr2.alloc (.cells #[.int .i64 k, .int .i64 n, .int .i64 v] 29))) := ⟨below_allocG HB.out _ (blt BL.out)⟩
            have n3_ : Aside0 (LW (wr2.alloc (.cells #[.int .i64 k, .int .i64 n, .int .i64 v] 29))) := ⟨HL.out.below (below_step HBW.out (bel1 _ _))⟩
            subst hA
            clear hp hel
            go_upto_region 18 with (fail)
            generalize wr2.alloc (.cells #[.int .i64 k, .int .i64 n, .int .i64 v] 29) = w17 at BP n1_ n2_ n3_ ⊢
            generalize wr2.heap.size = gp at BP ⊢
            clear BL HB x0 x1 x2
            have BL := n1_
            have HB := n2_
            clear n1_ n2_
            have y0 : w17.cell? ⟨gp, 0, none⟩ = some (.int .i64 k) := (blk_cell BP.out 0).trans rfl
            have y1 : w17.cell? ⟨gp, 1, none⟩ = some (.int .i64 n) := (blk_cell BP.out 1).trans rfl
            have y2 : w17.cell? ⟨gp, 2, none⟩ = some (.int .i64 v) := (blk_cell BP.out 2).trans rfl
            cases hlp : lineP ⟨k, n, v⟩ with
            | none =>
              have HLP := Aside0.mk hlp
              have HR2 : Aside0 (ro = (⟨#[]⟩, 171)) := ⟨by rw [HP.out, HDR.out, lines_none HLP.out]⟩
              clear hlp
              go_wp2_with (go_at_call 14; refine (written_x k n v _ n3_.out HON.out.1 HON.out.2).mono ?_; rw [HLP.out]; rintro e w18 ⟨⟨b, rfl⟩, hb⟩; have B9 : Aside0 (Below gb w1 w18) := ⟨HB.out.trans (hb.mono (Nat.le_of_lt (blt BL.out)))⟩; clear hb)
              go_ret2
              rw [HR2.out]
              exact ⟨rfl, b1.out.trans (B9.out.mono (by rw [GB.out]; exact b1.out.size))⟩
            | some b =>
              have HLP := Aside0.mk hlp
              have HR2 : Aside0 (ro = match linesFrom (acc ++ (b ++ ⟨#[10]⟩)) (s.picks.drop (j + 1)) with | some t => (t, 0) | none => (⟨#[]⟩, 171)) := ⟨by rw [HP.out, HDR.out, lines_some HLP.out]⟩
              have hbl := lineP_len _ HON.out.1 HON.out.2 b hlp
              have e1 : (b ++ ⟨#[10]⟩).size = b.size + 1 := by rw [size_append]; rfl
              have HZ3 : Aside0 (acc.size + (b ++ ⟨#[10]⟩).size ≤ 200 + 60 * (j + 1)) := ⟨by have := HA.out; omega⟩
              clear hlp e1
              go_wp2_with (first
                | (go_at_call 14; refine (written_x k n v _ n3_.out HON.out.1 HON.out.2).mono ?_; rw [HLP.out]; rintro e w18 ⟨rfl, hb⟩; have m1_ := Aside0.mk (builder_below BL.out hb); have m2_ : Aside0 (Below gb w1 w18) := ⟨HB.out.trans (hb.mono (Nat.le_of_lt (blt BL.out)))⟩; clear hb BL HB; have BL := m1_; have HB := m2_; clear m1_ m2_)
                | (go_at_call 12; have hX := write_on gb acc (b ++ ⟨#[10]⟩) w18 BL.out (Nat.le_trans HZ3.out (by omega)); refine hX.mono ?_; clear hX; rintro e w19 ⟨rfl, h1, h2, h3⟩; have m1_ := Aside0.mk h1; have m2_ := Aside0.mk (HB.out.trans h2); clear h1 h2 h3 BL HB; have BL := m1_; have HB := m2_; clear m1_ m2_))
              go_roundw
              case rel => exact ⟨j + 1, acc ++ (b ++ ⟨#[10]⟩), by go_num, by omega, ⟨by rw [size_append]; exact HZ3.out⟩, HR2, BL, HB⟩
              case measure => simp [intOf]; omega
          · obtain rfl : j = s.picks.length := by omega
            have HR2 : Aside0 (ro = (acc, 0)) := ⟨by rw [HP.out, List.drop_length]; rfl⟩
            go_wp2_with (go_at_call 15; refine (Tryd.Builder_String_any gb gb acc.data.toList _ BL.out (Nat.le_of_lt (blt BL.out))).mono ?_; rintro e w20 ⟨rfl, hb⟩; have B9 : Aside0 (Below gb w1 w20) := ⟨HB.out.trans hb⟩; clear hb)
            go_ret2
            rw [HR2.out]
            exact ⟨rfl, b1.out.trans (B9.out.mono (by rw [GB.out]; exact b1.out.size))⟩
      | true =>
        have HE : Aside0 (headOf s = spAll ⟨#[108, 105, 109, 105, 116, 115]⟩ (limL s.lim) ++ ⟨#[10]⟩ ++ ⟨#[114, 101, 97, 112, 10]⟩) := ⟨by unfold headOf reapT; rw [hrp]; rfl⟩
        have b2 := Aside0.mk (HB.out.block g0 G01.out |>.trans b0.out)
        rw [hrp] at b2
        have q7 : w15.cell? ⟨g0, 7, none⟩ = some (.bool true) := (blk_cell b2.out 7).trans rfl
        have HZ2 : Aside0 ((spAll ⟨#[108, 105, 109, 105, 116, 115]⟩ (limL s.lim) ++ ⟨#[10]⟩).size + (⟨#[114, 101, 97, 112, 10]⟩ : ByteArray).size ≤ 200) := ⟨by have h := HHL.out; rw [HE.out, size_append] at h; exact h⟩
        clear hrp
        go_upto_region 15 with (go_at_call 12; refine (write_on gb (spAll ⟨#[108, 105, 109, 105, 116, 115]⟩ (limL s.lim) ++ ⟨#[10]⟩) ⟨#[114, 101, 97, 112, 10]⟩ _ BL.out (Nat.le_trans HZ2.out (by decide))).mono ?_; rintro e w16 ⟨rfl, h1, h2, h3⟩; have n1_ := Aside0.mk h1; have n2_ := Aside0.mk (HB.out.trans h2); clear h1 h2 h3 BL HB; have BL := n1_; have HB := n2_; clear n1_ n2_)
        rw [← HE.out] at BL
        have b3 := Aside0.mk (HB.out.block g0 G01.out |>.trans b0.out)
        have q8 : w16.cell? ⟨g0, 8, none⟩ = some (.slice A s.picks.length c) := (blk_cell b3.out 8).trans rfl
        clear q7 b2 HZ HZ2 HE
        go_wp2_with (fail)
        clear q8
        go_loopw [52] (fun v52 wr => ∃ (j : Nat) (acc : ByteArray), v52 = .int .i64 j ∧ j ≤ s.picks.length ∧ Aside0 (acc.size ≤ 200 + 60 * j) ∧ Aside0 (ro = match linesFrom acc (s.picks.drop j) with | some t => (t, 0) | none => (⟨#[]⟩, 171)) ∧ Aside0 (Lib.IsBuilder 42 5 gb gb (Lib.strCells acc) wr) ∧ Aside0 (Below gb w1 wr)) (fun v52 _ => s.picks.length - (intOf v52).toNat)
        case atStart => exact ⟨0, headOf s, rfl, by omega, ⟨by have := HHL.out; omega⟩, HP, BL, HB⟩
        case round =>
          clear BL HB HP
          obtain ⟨j, acc, rfl, hj, HA, HP, BL, HB⟩ := hrel
          obtain ⟨wr2, rfl⟩ : ∃ z : World, z = wr := ⟨_, rfl⟩
          have hm := HM.out
          have HBW : Aside0 (Below w.heap.size w wr2) := ⟨b1.out.trans (HB.out.mono (by rw [GB.out]; exact b1.out.size))⟩
          by_cases hlt : j < s.picks.length
          · obtain ⟨p, hp⟩ : ∃ p, s.picks[j]? = some p := ⟨_, List.getElem?_eq_getElem hlt⟩
            obtain ⟨ad, hA, x0, x1, x2⟩ := at_T29 HR.out (j : Int) (by omega) (by omega)
            have hel : rd_T29 s.picks j = p := by
              unfold rd_T29
              rw [Int.toNat_natCast, List.getD_eq_getElem?_getD, hp]
              rfl
            rw [hel, Int.toNat_natCast] at x0 x1 x2
            obtain ⟨k, n, v⟩ := p
            dsimp only at x0 x1 x2
            replace x0 := pw_cell_below HBW.out x0
            replace x1 := pw_cell_below HBW.out x1
            replace x2 := pw_cell_below HBW.out x2
            have HON : Aside0 (okN n ∧ okN v) := ⟨HRG.out.2 _ (List.mem_of_getElem? hp)⟩
            have HDR : Aside0 (s.picks.drop j = ⟨k, n, v⟩ :: s.picks.drop (j + 1)) := ⟨by obtain ⟨hl, he⟩ := List.getElem?_eq_some_iff.1 hp; rw [← he]; exact List.drop_eq_getElem_cons hl⟩
            have BP := Aside0.mk (heap_alloc_new wr2 (.cells #[.int .i64 k, .int .i64 n, .int .i64 v] 29))
            have n1_ := Aside0.mk (builder_below BL.out (bel1 wr2 (.cells #[.int .i64 k, .int .i64 n, .int .i64 v] 29)))
            have n2_ : Aside0 (Below gb w1 (wr2.alloc (.cells #[.int .i64 k, .int .i64 n, .int .i64 v] 29))) := ⟨below_allocG HB.out _ (blt BL.out)⟩
            have n3_ : Aside0 (LW (wr2.alloc (.cells #[.int .i64 k, .int .i64 n, .int .i64 v] 29))) := ⟨HL.out.below (below_step HBW.out (bel1 _ _))⟩
            subst hA
            clear hp hel
            go_upto_region 18 with (fail)
            generalize wr2.alloc (.cells #[.int .i64 k, .int .i64 n, .int .i64 v] 29) = w17 at BP n1_ n2_ n3_ ⊢
            generalize wr2.heap.size = gp at BP ⊢
            clear BL HB x0 x1 x2
            have BL := n1_
            have HB := n2_
            clear n1_ n2_
            have y0 : w17.cell? ⟨gp, 0, none⟩ = some (.int .i64 k) := (blk_cell BP.out 0).trans rfl
            have y1 : w17.cell? ⟨gp, 1, none⟩ = some (.int .i64 n) := (blk_cell BP.out 1).trans rfl
            have y2 : w17.cell? ⟨gp, 2, none⟩ = some (.int .i64 v) := (blk_cell BP.out 2).trans rfl
            cases hlp : lineP ⟨k, n, v⟩ with
            | none =>
              have HLP := Aside0.mk hlp
              have HR2 : Aside0 (ro = (⟨#[]⟩, 171)) := ⟨by rw [HP.out, HDR.out, lines_none HLP.out]⟩
              clear hlp
              go_wp2_with (go_at_call 14; refine (written_x k n v _ n3_.out HON.out.1 HON.out.2).mono ?_; rw [HLP.out]; rintro e w18 ⟨⟨b, rfl⟩, hb⟩; have B9 : Aside0 (Below gb w1 w18) := ⟨HB.out.trans (hb.mono (Nat.le_of_lt (blt BL.out)))⟩; clear hb)
              go_ret2
              rw [HR2.out]
              exact ⟨rfl, b1.out.trans (B9.out.mono (by rw [GB.out]; exact b1.out.size))⟩
            | some b =>
              have HLP := Aside0.mk hlp
              have HR2 : Aside0 (ro = match linesFrom (acc ++ (b ++ ⟨#[10]⟩)) (s.picks.drop (j + 1)) with | some t => (t, 0) | none => (⟨#[]⟩, 171)) := ⟨by rw [HP.out, HDR.out, lines_some HLP.out]⟩
              have hbl := lineP_len _ HON.out.1 HON.out.2 b hlp
              have e1 : (b ++ ⟨#[10]⟩).size = b.size + 1 := by rw [size_append]; rfl
              have HZ3 : Aside0 (acc.size + (b ++ ⟨#[10]⟩).size ≤ 200 + 60 * (j + 1)) := ⟨by have := HA.out; omega⟩
              clear hlp e1
              go_wp2_with (first
                | (go_at_call 14; refine (written_x k n v _ n3_.out HON.out.1 HON.out.2).mono ?_; rw [HLP.out]; rintro e w18 ⟨rfl, hb⟩; have m1_ := Aside0.mk (builder_below BL.out hb); have m2_ : Aside0 (Below gb w1 w18) := ⟨HB.out.trans (hb.mono (Nat.le_of_lt (blt BL.out)))⟩; clear hb BL HB; have BL := m1_; have HB := m2_; clear m1_ m2_)
                | (go_at_call 12; have hX := write_on gb acc (b ++ ⟨#[10]⟩) w18 BL.out (Nat.le_trans HZ3.out (by omega)); refine hX.mono ?_; clear hX; rintro e w19 ⟨rfl, h1, h2, h3⟩; have m1_ := Aside0.mk h1; have m2_ := Aside0.mk (HB.out.trans h2); clear h1 h2 h3 BL HB; have BL := m1_; have HB := m2_; clear m1_ m2_))
              go_roundw
              case rel => exact ⟨j + 1, acc ++ (b ++ ⟨#[10]⟩), by go_num, by omega, ⟨by rw [size_append]; exact HZ3.out⟩, HR2, BL, HB⟩
              case measure => simp [intOf]; omega
          · obtain rfl : j = s.picks.length := by omega
            have HR2 : Aside0 (ro = (acc, 0)) := ⟨by rw [HP.out, List.drop_length]; rfl⟩
            go_wp2_with (go_at_call 15; refine (Tryd.Builder_String_any gb gb acc.data.toList _ BL.out (Nat.le_of_lt (blt BL.out))).mono ?_; rintro e w20 ⟨rfl, hb⟩; have B9 : Aside0 (Below gb w1 w20) := ⟨HB.out.trans hb⟩; clear hb)
            go_ret2
            rw [HR2.out]
            exact ⟨rfl, b1.out.trans (B9.out.mono (by rw [GB.out]; exact b1.out.size))⟩
theorem print_any (A : Option Addr) (c : Nat) (s : Scr) (w : World) (hr : Kd.C k29 w A s.picks.length s.picks) (hL : LW w) (hrg : rngS s) :
    Calls Tryd.prog 7 #[.agg (scC s.lim s.reap (.slice A s.picks.length c))] w fun e w' => e = .returned (.tuple #[.string (printOf s).1, .int .i64 (printOf s).2]) ∧ Below w.heap.size w w' := by
  by_cases hm : 4096 < s.picks.length
  · exact print_many A c s w hr hL hrg hm
  · exact print_few A c s w hr hL hrg hm
end Go.Proofs.YtmoebchaiokamaaDoor.Given
