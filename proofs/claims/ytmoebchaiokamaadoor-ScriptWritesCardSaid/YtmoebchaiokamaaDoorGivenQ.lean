/- The laws' head: the document's examples hold. -/
import Derived.Test.YtmoebchaiokamaaDoorGivenO
import Derived.Test.YtmoebchaiokamaaDoorPrint6
namespace Go.Proofs.YtmoebchaiokamaaDoor.Given
open Go.RowKit Go.Proofs.YtmoebchaiokamaaDoorW.PrintWords Go.Proofs.YtmoebchaiokamaaDoorW.PrintLast Go.Proofs.YtmoebchaiokamaaDoorW.PrintMore Go.Proofs.YtmoebchaiokamaaDoor.Print
set_option linter.unusedVariables false
set_option linter.unusedSimpArgs false
attribute [local go_sem high] eqA29
def shText : ByteArray := ⟨#[108, 105, 109, 105, 116, 115, 32, 57, 32, 57, 32, 57, 32, 57, 57, 32, 57, 57, 57, 32, 57, 32, 57, 57, 10, 114, 101, 97, 112, 10, 115, 116, 101, 112, 32, 48, 10, 105, 110, 32, 48, 32, 45, 55, 10, 112, 114, 111, 98, 101, 10]⟩
def shScr : Scr := ⟨⟨9, 9, 9, 99, 999, 9, 99⟩, true, [⟨1, 0, 0⟩, ⟨2, 0, -7⟩, ⟨4, 0, 0⟩]⟩
theorem sh_parse : parseOf shText = (shScr, 0, 0) := by kernel_rfl
theorem sh_bad : parseOf ⟨#[108, 105, 109, 105, 116, 115, 32, 49, 32, 50, 32, 51, 10]⟩ = (scr0, 1, 171) := by kernel_rfl
theorem sh_print : printOf shScr = (shText, 0) := by kernel_rfl
theorem sh_rng : rngS shScr := by
  refine ⟨fun n hn => ?_, fun p hp => ?_⟩
  · simp only [shScr, limL, List.mem_cons, List.not_mem_nil, or_false] at hn
    unfold okN
    omega
  · simp only [shScr, List.mem_cons, List.not_mem_nil, or_false] at hp
    rcases hp with rfl | rfl | rfl <;> exact ⟨by unfold okN; decide, by unfold okN; decide⟩
theorem parse_sh (w : World) (hL : LW w) : Calls Tryd.prog 10 #[.string shText] w fun e w' => ∃ (ad : Addr) (c : Nat), e = .returned (.tuple #[.agg #[.int .i64 9, .int .i64 9, .int .i64 9, .int .i64 99, .int .i64 999, .int .i64 9, .int .i64 99, .bool true, .slice (some ad) 3 c], .int .i64 0, .int .i64 0]) ∧ Kd.C k29 w' (some ad) 3 shScr.picks ∧ 3 ≤ c ∧ Below w.heap.size w w' := by
  refine (parse_any shText w hL (by decide)).mono ?_
  rw [sh_parse]
  rintro e w' ⟨A, c, rfl, hR, hb⟩
  obtain ⟨h1, h2, h3⟩ := Kd.R_reads' hR
  obtain ⟨ad, hA, _⟩ := at_T29 h3 (0 : Int) (by decide) (by decide)
  subst hA
  exact ⟨ad, c, rfl, h3, h2, hb⟩
theorem parse_sh2 (w : World) (hL : LW w) : Calls Tryd.prog 10 #[.string ⟨#[108, 105, 109, 105, 116, 115, 32, 49, 32, 50, 32, 51, 10]⟩] w fun e w' => ∃ (A : Option Addr) (c : Nat), e = .returned (.tuple #[.agg #[.int .i64 0, .int .i64 0, .int .i64 0, .int .i64 0, .int .i64 0, .int .i64 0, .int .i64 0, .bool false, .slice A 0 c], .int .i64 1, .int .i64 171]) ∧ Below w.heap.size w w' := by
  refine (parse_any _ w hL (by decide)).mono ?_
  rw [sh_bad]
  rintro e w' ⟨A, c, rfl, hR, hb⟩
  exact ⟨A, c, rfl, hb⟩
theorem print_sh (ad : Addr) (c : Nat) (w : World) (hL : LW w) (hr : Kd.C k29 w (some ad) 3 shScr.picks) : Calls Tryd.prog 7 #[.agg #[.int .i64 9, .int .i64 9, .int .i64 9, .int .i64 99, .int .i64 999, .int .i64 9, .int .i64 99, .bool true, .slice (some ad) 3 c]] w fun e w' => e = .returned (.tuple #[.string shText, .int .i64 0]) ∧ Below w.heap.size w w' := by
  have h := print_any (some ad) c shScr w hr hL sh_rng
  rw [sh_print] at h
  exact h
set_option maxRecDepth 100000 in
set_option maxHeartbeats 4000000 in
theorem shown_true (w : World) (hL : LW w) : Calls Tryd.prog 6 #[] w fun e w' => e = .returned (.bool true) ∧ Below w.heap.size w w' := by
  have hu26 := Tryd.underlying26
  have HL := Aside0.mk hL
  clear hL
  go_enter Tryd.func6, Tryd.ntmps6
  go_upto_region 2 with (fail)
  rw [show (⟨#[108, 105, 109, 105, 116, 115, 32, 57, 32, 57, 32, 57, 32, 57, 57, 32, 57, 57, 57, 32, 57, 32, 57, 57, 10, 114, 101, 97, 112, 10, 115, 116, 101, 112, 32, 48, 10, 105, 110, 32, 48, 32, 45, 55, 10, 112, 114, 111, 98, 101, 10]⟩ : ByteArray) = shText from rfl]
  have HT : Aside0 (shText = shText) := ⟨rfl⟩
  go_upto_region 3 with (go_at_call 10; refine (parse_sh w HL.out).mono ?_; rintro e w1 ⟨ad, c, rfl, hC, hc, hb⟩; have HC := Aside0.mk hC; have B1 := Aside0.mk hb; clear hC hc hb)
  have BS : Aside0 ((w1.alloc (.cells #[.int .i64 9, .int .i64 9, .int .i64 9, .int .i64 99, .int .i64 999, .int .i64 9, .int .i64 99, .bool true, .slice (some ad) 3 c] 26)).heap[w1.heap.size]? = some (.cells #[.int .i64 9, .int .i64 9, .int .i64 9, .int .i64 99, .int .i64 999, .int .i64 9, .int .i64 99, .bool true, .slice (some ad) 3 c] 26 (0, 0))) := ⟨heap_alloc_new _ _⟩
  have B2 : Aside0 (Below w.heap.size w (w1.alloc (.cells #[.int .i64 9, .int .i64 9, .int .i64 9, .int .i64 99, .int .i64 999, .int .i64 9, .int .i64 99, .bool true, .slice (some ad) 3 c] 26))) := ⟨below_step B1.out (bel1 w1 _)⟩
  have HC2 := Aside0.mk (Kd.C_below HC.out (bel1 w1 (.cells #[.int .i64 9, .int .i64 9, .int .i64 9, .int .i64 99, .int .i64 999, .int .i64 9, .int .i64 99, .bool true, .slice (some ad) 3 c] 26)))
  generalize w1.alloc (.cells #[.int .i64 9, .int .i64 9, .int .i64 9, .int .i64 99, .int .i64 999, .int .i64 9, .int .i64 99, .bool true, .slice (some ad) 3 c] 26) = w2 at BS B2 HC2 ⊢
  generalize w1.heap.size = g at BS ⊢
  clear B1 HC
  have x4 : w2.cell? ⟨g, 4, none⟩ = some (.int .i64 999) := (blk_cell BS.out 4).trans rfl
  have x7 : w2.cell? ⟨g, 7, none⟩ = some (.bool true) := (blk_cell BS.out 7).trans rfl
  have x8 : w2.cell? ⟨g, 8, none⟩ = some (.slice (some ad) 3 c) := (blk_cell BS.out 8).trans rfl
  obtain ⟨ad', hA, y0, y1, y2⟩ := at_T29 HC2.out (1 : Int) (by decide) (by decide)
  injection hA with hA
  subst hA
  replace y0 : w2.cell? ⟨ad.block, ad.off + 3, none⟩ = some (.int .i64 2) := y0
  replace y1 : w2.cell? ⟨ad.block, ad.off + 3 + 1, none⟩ = some (.int .i64 0) := y1
  replace y2 : w2.cell? ⟨ad.block, ad.off + 3 + 2, none⟩ = some (.int .i64 (-7)) := y2
  have hq : (shText.toList == shText.toList) = true := by simp
  go_wp2_with (first
    | (refine wpList_load_row rfl 26 (.tmp 2) rfl g rfl 26 #[.int .i64 9, .int .i64 9, .int .i64 9, .int .i64 99, .int .i64 999, .int .i64 9, .int .i64 99, .bool true, .slice (some ad) 3 c] (0, 0) _ BS.out Tryd.underlying26 rfl (by kernel_rfl) ?_)
    | (go_at_call 7; refine (print_sh ad c w2 (HL.out.below B2.out) HC2.out).mono ?_; rintro e w3 ⟨rfl, hb⟩; have B3 := Aside0.mk (below_step B2.out hb); clear hb)
    | (go_at_call 10; refine (parse_sh2 w3 (HL.out.below B3.out)).mono ?_; rintro e w4 ⟨A4, c4, rfl, hb⟩; have B4 := Aside0.mk (below_step B3.out hb); clear hb))
  go_ret
  exact ⟨rfl, below_step B4.out (bel1 _ _)⟩
end Go.Proofs.YtmoebchaiokamaaDoor.Given
