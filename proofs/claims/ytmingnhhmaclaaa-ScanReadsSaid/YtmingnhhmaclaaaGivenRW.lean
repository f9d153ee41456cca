/- The reference's word: what it reads. -/
import Derived.Test.YtmingnhhmaclaaaPureScanTexts
import Derived.Test.YtmingnhhmaclaaaGivenG
namespace Go.Proofs.Ytmingnhhmaclaaa.Given
open Go.RowKit Go.Proofs.YtmingnhhmaclaaaW.PrintWords Go.Proofs.Ytmingnhhmaclaaa.Print
set_option linter.unusedVariables false
set_option linter.unusedSimpArgs false

set_option maxHeartbeats 400000 in
theorem rletter_any (c : Int) (w : World) : Calls Try.prog 27 #[.int .u8 c] w fun e w' => e = .returned (.bool (isLetter c)) ∧ w = w' := by
  by_cases h1 : 97 ≤ c <;> by_cases h2 : c ≤ 122 <;> by_cases h3 : 65 ≤ c <;> by_cases h4 : c ≤ 90 <;> (try omega) <;>
    (go_enter Try.func27, Try.ntmps27
     go_wp2
     all_goals
       go_ret
       exact ⟨ret_bool (by rw [Bool.eq_iff_iff]; simp [isLetter]; try omega), rfl⟩)
set_option maxHeartbeats 400000 in
theorem rdigit_any (c : Int) (w : World) : Calls Try.prog 29 #[.int .u8 c] w fun e w' => e = .returned (.bool (isDigit c)) ∧ w = w' := by
  by_cases h1 : 48 ≤ c <;> by_cases h2 : c ≤ 57 <;> (try omega) <;>
    (go_enter Try.func29, Try.ntmps29
     go_wp2
     go_ret
     exact ⟨ret_bool (by rw [Bool.eq_iff_iff]; simp [isDigit]; try omega), rfl⟩)
theorem rkind_any (s : ByteArray) (w : World) : Calls Try.prog 12 #[.string s] w fun e w' => e = .returned (.int .i64 (kindOf s)) ∧ Below w.heap.size w w' := by
  obtain ⟨k, hk⟩ := Pure.refKind s
  exact squintref01_Kind.calls k s (kindOf s) w hk
theorem runLen_at (F : Nat) : ∀ (x : List Int) (m : Nat), m ≤ runLen F x → m < x.length → predOf F (rd x (m : Nat)) = decide (m < runLen F x)
  | [], m, _, h => by simp at h
  | c :: x, 0, _, _ => by
    show predOf F c = _
    unfold runLen
    by_cases hc : predOf F c = true
    · rw [List.takeWhile_cons_of_pos hc, hc]
      simp
    · rw [List.takeWhile_cons_of_neg hc]
      simpa using hc
  | c :: x, m + 1, h, h2 => by
    have hc : predOf F c = true := by
      apply Classical.byContradiction
      intro hc
      unfold runLen at h
      rw [List.takeWhile_cons_of_neg hc] at h
      simp at h
    have he : runLen F (c :: x) = runLen F x + 1 := by
      unfold runLen
      rw [List.takeWhile_cons_of_pos hc]
      rfl
    have hr : rd (c :: x) ((m + 1 : Nat) : Int) = rd x (m : Nat) := by simp [rd]
    rw [hr, runLen_at F x m (by omega) (by simpa using h2), he]
    simp
/-- What the reference's word answers at a place. -/
def wordR (l : List Int) (at_ : Nat) : Int × Int × Int × Int × Int :=
  if kindOf (strOfNums ((l.drop at_).take (runLen 39 (l.drop at_)))) = 0 then (if 32 < runLen 39 (l.drop at_) then (1, at_, (runLen 39 (l.drop at_) : Nat), 0, 13) else (1, at_, (runLen 39 (l.drop at_) : Nat), 0, 0)) else (kindOf (strOfNums ((l.drop at_).take (runLen 39 (l.drop at_)))), at_, (runLen 39 (l.drop at_) : Nat), 0, 0)
set_option maxHeartbeats 2000000 in
theorem rword_any (A : Option Addr) (c : Nat) (l : List Int) (b : Nat) (w : World) (hr : Kd.C (Kd.int .u8) w A l.length l) (hc : l.length ≤ c) (hb : b ≤ l.length) (hl : l.length ≤ 4294967296) :
    Calls Try.prog 28 #[.slice A l.length c, .int .i64 b] w fun e w' => e = .returned (.tuple #[.agg #[.int .i64 (wordR l b).1, .int .i64 (wordR l b).2.1, .int .i64 (wordR l b).2.2.1, .int .i64 (wordR l b).2.2.2.1], .int .i64 (wordR l b).2.2.2.2]) ∧ Below w.heap.size w w' := by
  have hu40 := Try.underlying40
  have HR := Aside0.mk hr
  have HC := Aside0.mk hc
  obtain ⟨x, hx⟩ : ∃ x, x = l.drop b := ⟨_, rfl⟩
  have hxl : x.length = l.length - b := by rw [hx, List.length_drop]
  have hle := runLen_le 39 x
  obtain ⟨L, hL⟩ : ∃ L, L = runLen 39 x := ⟨_, rfl⟩
  rw [← hL] at hle
  have HX := Aside0.mk hx
  have HLL := Aside0.mk hL
  have HXL := Aside0.mk hxl
  clear hr hc hx hL hxl
  have BK0 := Aside0.mk (heap_alloc_new w (.cells #[.int .i64 0, .int .i64 0, .int .i64 0, .int .i64 0] 40))
  have HB0 : Aside0 (Below w.heap.size w (w.alloc (.cells #[.int .i64 0, .int .i64 0, .int .i64 0, .int .i64 0] 40))) := ⟨(Below.refl _ w).alloc (Nat.le_refl _) _⟩
  go_enter Try.func28, Try.ntmps28
  go_upto_region 1 with (fail)
  obtain ⟨g4, hg4⟩ : ∃ g, g = w.heap.size := ⟨_, rfl⟩
  rw [← hg4] at BK0
  try rw [← hg4]
  generalize w.alloc (.cells #[.int .i64 0, .int .i64 0, .int .i64 0, .int .i64 0] 40) = w1 at BK0 HB0 ⊢
  have GE4 : Aside0 (w.heap.size ≤ g4) := ⟨by rw [hg4]; exact Nat.le_refl _⟩
  clear hg4
  go_wp2_with (fail)
  go_loopw [6] (fun v6 wr => wr = w1 ∧ ∃ m : Nat, v6 = .int .i64 ((b + m : Nat) : Int) ∧ m ≤ L) (fun v6 _ => l.length - (intOf v6).toNat)
  case atStart => exact ⟨rfl, 0, by simp, by omega⟩
  case round =>
    obtain ⟨rfl, m, rfl, hm⟩ := hrel
    by_cases hml : m < L
    · have hlt : b + m < l.length := by have := HXL.out; omega
      obtain ⟨ad, rfl, hcell⟩ := Kd.at_int (Kd.C_below HR.out HB0.out) ((b + m : Nat) : Int) (by omega) (by omega)
      rw [Int.toNat_natCast] at hcell
      have hp := runLen_at 39 x m (by have := HLL.out; omega) (by have := HXL.out; omega)
      rw [← HLL.out, decide_eq_true hml] at hp
      have hrd : rd x (m : Nat) = rd l ((b + m : Nat) : Int) := by rw [HX.out]; simp only [rd, Int.toNat_natCast, List.getD_eq_getElem?_getD, List.getElem?_drop]
      rw [hrd] at hp
      obtain ⟨ch, hch⟩ : ∃ ch, ch = rd l ((b + m : Nat) : Int) := ⟨_, rfl⟩
      rw [← hch] at hp hcell
      have hp2 : (isLetter ch || isDigit ch) = true := hp
      clear hp hrd hch
      rcases hlc : isLetter ch with _ | _
      · rw [hlc, Bool.false_or] at hp2
        have HLC := Aside0.mk hlc
        have HDC := Aside0.mk hp2
        clear hlc hp2
        go_wp2_with (first | (go_at_call 27; refine (rletter_any _ _).mono ?_; rw [HLC.out]; rintro e w' ⟨rfl, rfl⟩) | (go_at_call 29; refine (rdigit_any _ _).mono ?_; rw [HDC.out]; rintro e w' ⟨rfl, rfl⟩))
        go_roundw
        case rel => exact ⟨by first | rfl | trivial, m + 1, by go_num, by omega⟩
        case measure => simp [intOf]; omega
      · have HLC := Aside0.mk hlc
        clear hlc hp2
        go_wp2_with (first | (go_at_call 27; refine (rletter_any _ _).mono ?_; rw [HLC.out]; rintro e w' ⟨rfl, rfl⟩))
        go_roundw
        case rel => exact ⟨by first | rfl | trivial, m + 1, by go_num, by omega⟩
        case measure => simp [intOf]; omega
    · obtain rfl : m = L := by omega
      obtain ⟨i0, hi0, _, hsz0, _⟩ := info_parts info5
      obtain ⟨A', hcut, hA, hC⟩ := print_mid_of (P := Try.prog) (Value.int .u8) 0 26 5 .i64 .i64 Try.underlying26 hi0 hsz0 A c l (b : Int) ((b : Int) + (m : Int)) (by omega) (by omega) (by have := HXL.out; omega) HC.out
      have hxs : (l.take ((b : Int) + (m : Int)).toNat).drop (b : Int).toNat = x.take m := by
        rw [show ((b : Int) + (m : Int)).toNat = b + m by omega, Int.toNat_natCast, HX.out, List.drop_take, Nat.add_sub_cancel_left]
      have hxn : (x.take m).length = m := by rw [List.length_take]; omega
      rw [hxs] at hcut hA hC
      have hR := Kd.C_of_reads (h1 := fun _ => rfl) (hA _ (Kd.reads_of_C HR.out))
      rw [hxn] at hcut hR hC
      have hcv := Kd.C_string (P := Try.prog) (c := c - b) Try.underlying26 Try.underlying5 Try.underlying9 (Kd.C_below hR HB0.out)
      obtain ⟨k, hk⟩ : ∃ k, k = kindOf (strOfNums (x.take m)) := ⟨_, rfl⟩
      have HW : Aside0 (wordR l b = if k = 0 then (if 32 < m then (1, (b : Int), (m : Int), 0, 13) else (1, (b : Int), (m : Int), 0, 0)) else (k, (b : Int), (m : Int), 0, 0)) := ⟨by unfold wordR; rw [← HX.out, ← HLL.out, ← hk]⟩
      have HK := Aside0.mk hk
      clear hk hxs hxn hA hC hR hi0 hsz0
      by_cases hlt : b + m < l.length
      · obtain ⟨ad, rfl, hcell⟩ := Kd.at_int (Kd.C_below HR.out HB0.out) ((b + m : Nat) : Int) (by omega) (by omega)
        rw [Int.toNat_natCast] at hcell
        have hp := runLen_at 39 x m (by have := HLL.out; omega) (by have := HXL.out; omega)
        rw [← HLL.out, decide_eq_false (by omega)] at hp
        have hrd : rd x (m : Nat) = rd l ((b + m : Nat) : Int) := by rw [HX.out]; simp only [rd, Int.toNat_natCast, List.getD_eq_getElem?_getD, List.getElem?_drop]
        rw [hrd] at hp
        obtain ⟨ch, hch⟩ : ∃ ch, ch = rd l ((b + m : Nat) : Int) := ⟨_, rfl⟩
        rw [← hch] at hp hcell
        have hp2 : (isLetter ch || isDigit ch) = false := hp
        clear hp hrd hch
        rw [Bool.or_eq_false_iff] at hp2
        obtain ⟨hlc, hdc⟩ := hp2
        have HLC := Aside0.mk hlc
        have HDC := Aside0.mk hdc
        clear hlc hdc
        go_upto_region 4 with (first | (go_at_call 27; refine (rletter_any _ _).mono ?_; rw [HLC.out]; rintro e w' ⟨rfl, rfl⟩) | (go_at_call 29; refine (rdigit_any _ _).mono ?_; rw [HDC.out]; rintro e w' ⟨rfl, rfl⟩))
        go_upto_region 5 with (first
          | (go_at_call 12; refine (rkind_any _ _).mono ?_; rw [← HK.out]; rintro e w2 ⟨rfl, hb0⟩; have BK1 := Aside0.mk (heap_keep BK0.out hb0); have HB1 := Aside0.mk (below_then HB0.out HB0.out.size hb0); clear hb0))
        have hwr : wrap64 ((b : Int) + (m : Int) - (b : Int)) = (m : Int) := by have := HXL.out; simp only [wrap64]; omega
        have hw2 : (b : Int) + (m : Int) - (b : Int) = (m : Int) := by omega
        first | rw [hwr] | rw [hw2]
        have BX := Aside0.mk (heap_alloc_new w2 (.cells #[.int .i64 k, .int .i64 b, .int .i64 m, .int .i64 0] 40))
        have BK2 := Aside0.mk (heap_keep BK1.out (below_alloc (Below.refl _ w2) (.cells #[.int .i64 k, .int .i64 b, .int .i64 m, .int .i64 0] 40)))
        have HB2 := Aside0.mk (below_then HB1.out HB1.out.size (below_alloc (Below.refl _ w2) (.cells #[.int .i64 k, .int .i64 b, .int .i64 m, .int .i64 0] 40)))
        have NE : Aside0 (g4 ≠ w2.heap.size) := ⟨by have := blk_lt BK1.out; omega⟩
        have GE7 : Aside0 (w.heap.size ≤ w2.heap.size) := ⟨HB1.out.size⟩
        generalize w2.heap.size = g7 at BX NE GE7 ⊢
        generalize w2.alloc (.cells #[.int .i64 k, .int .i64 b, .int .i64 m, .int .i64 0] 40) = w3 at BX BK2 HB2 ⊢
        clear BK1 HB1 BK0 HB0 hwr hw2 hcut hcv
        have z0 : w3.cell? ⟨g7, 0, none⟩ = some (.int .i64 k) := (blk_cell BX.out 0).trans rfl
        by_cases hk0 : k = 0
        · subst hk0
          have f0 := blk_frozen BX.out 0
          go_upto_region 7 with (fail)
          have n0_ : Aside0 ((w3.setCell ⟨g7, 0, none⟩ (.int .i64 1)).heap[g7]? = some (.cells #[.int .i64 1, .int .i64 b, .int .i64 m, .int .i64 0] 40 (0, 0))) := ⟨(blk_set BX.out 0 _).trans rfl⟩
          have n1_ : Aside0 (Below w.heap.size w (w3.setCell ⟨g7, 0, none⟩ (.int .i64 1))) := ⟨below_set HB2.out GE7.out⟩
          have n2_ : Aside0 ((w3.setCell ⟨g7, 0, none⟩ (.int .i64 1)).heap[g4]? = _) := ⟨blk_far BK2.out NE.out _⟩
          generalize w3.setCell ⟨g7, 0, none⟩ (.int .i64 1) = w5 at n0_ n1_ n2_ ⊢
          clear BX HB2 BK2 z0 f0
          have BX := n0_
          have HB2 := n1_
          have BK2 := n2_
          clear n0_ n1_ n2_
          obtain ⟨w3, rfl⟩ : ∃ w3 : World, w3 = w5 := ⟨_, rfl⟩
          have z2 : w3.cell? ⟨g7, 2, none⟩ = some (.int .i64 m) := (blk_cell BX.out 2).trans rfl
          by_cases h32 : 32 < m
          · have HWR : Aside0 (wordR l b = (1, (b : Int), (m : Int), 0, 13)) := ⟨by rw [HW.out]; simp [h32]⟩
            have hd : decide ((m : Int) > 32) = true := decide_eq_true (by omega)
            clear HW
            go_wp2_with (first
              | (refine wpList_load_row rfl 40 (.tmp 7) rfl g7 rfl 40 #[.int .i64 1, .int .i64 b, .int .i64 m, .int .i64 0] (0, 0) _ BX.out Try.underlying40 rfl (by kernel_rfl) ?_)
              | (refine wpList_store_row rfl 40 (.tmp 4) (.tmp 47) rfl g4 #[.int .i64 1, .int .i64 b, .int .i64 m, .int .i64 0] rfl rfl 40 _ BK2.out (by kernel_rfl) rfl (by kernel_rfl) ?_; have n0_ : Aside0 ((w3.setRow g4 #[.int .i64 1, .int .i64 b, .int .i64 m, .int .i64 0]).heap[g4]? = some (.cells #[.int .i64 1, .int .i64 b, .int .i64 m, .int .i64 0] 40 (0, 0))) := ⟨setRow_heap _ _ _ _ _ _ BK2.out⟩; have n1_ := Aside0.mk (below_setRow HB2.out GE4.out #[.int .i64 1, .int .i64 b, .int .i64 m, .int .i64 0])))
            refine bodyPost_ret (results_ct rfl _ _ g4 40 #[.int .i64 1, .int .i64 b, .int .i64 m, .int .i64 0] (0, 0) _ rfl n0_.out Try.underlying40 rfl (by kernel_rfl)) rfl ?_
            exact ⟨by rw [HWR.out]; rfl, n1_.out⟩
          · have HWR : Aside0 (wordR l b = (1, (b : Int), (m : Int), 0, 0)) := ⟨by rw [HW.out]; simp [h32]⟩
            have hd : decide ((m : Int) > 32) = false := decide_eq_false (by omega)
            clear HW
            go_wp2_with (first
              | (refine wpList_load_row rfl 40 (.tmp 7) rfl g7 rfl 40 #[.int .i64 1, .int .i64 b, .int .i64 m, .int .i64 0] (0, 0) _ BX.out Try.underlying40 rfl (by kernel_rfl) ?_)
              | (refine wpList_store_row rfl 40 (.tmp 4) (.tmp 48) rfl g4 #[.int .i64 1, .int .i64 b, .int .i64 m, .int .i64 0] rfl rfl 40 _ BK2.out (by kernel_rfl) rfl (by kernel_rfl) ?_; have n0_ : Aside0 ((w3.setRow g4 #[.int .i64 1, .int .i64 b, .int .i64 m, .int .i64 0]).heap[g4]? = some (.cells #[.int .i64 1, .int .i64 b, .int .i64 m, .int .i64 0] 40 (0, 0))) := ⟨setRow_heap _ _ _ _ _ _ BK2.out⟩; have n1_ := Aside0.mk (below_setRow HB2.out GE4.out #[.int .i64 1, .int .i64 b, .int .i64 m, .int .i64 0])))
            refine bodyPost_ret (results_ct rfl _ _ g4 40 #[.int .i64 1, .int .i64 b, .int .i64 m, .int .i64 0] (0, 0) _ rfl n0_.out Try.underlying40 rfl (by kernel_rfl)) rfl ?_
            exact ⟨by rw [HWR.out]; rfl, n1_.out⟩
        · have HWR : Aside0 (wordR l b = (k, (b : Int), (m : Int), 0, 0)) := ⟨by rw [HW.out]; simp [hk0]⟩
          have hk1 : (k == 0) = false := beq_eq_false_iff_ne.2 hk0
          clear HW
          go_wp2_with (first
            | (refine wpList_load_row rfl 40 (.tmp 7) rfl g7 rfl 40 #[.int .i64 k, .int .i64 b, .int .i64 m, .int .i64 0] (0, 0) _ BX.out Try.underlying40 rfl (by kernel_rfl) ?_)
            | (refine wpList_store_row rfl 40 (.tmp 4) (.tmp 48) rfl g4 #[.int .i64 k, .int .i64 b, .int .i64 m, .int .i64 0] rfl rfl 40 _ BK2.out (by kernel_rfl) rfl (by kernel_rfl) ?_; have n0_ : Aside0 ((w3.setRow g4 #[.int .i64 k, .int .i64 b, .int .i64 m, .int .i64 0]).heap[g4]? = some (.cells #[.int .i64 k, .int .i64 b, .int .i64 m, .int .i64 0] 40 (0, 0))) := ⟨setRow_heap _ _ _ _ _ _ BK2.out⟩; have n1_ := Aside0.mk (below_setRow HB2.out GE4.out #[.int .i64 k, .int .i64 b, .int .i64 m, .int .i64 0])))
          refine bodyPost_ret (results_ct rfl _ _ g4 40 #[.int .i64 k, .int .i64 b, .int .i64 m, .int .i64 0] (0, 0) _ rfl n0_.out Try.underlying40 rfl (by kernel_rfl)) rfl ?_
          exact ⟨by rw [HWR.out]; rfl, n1_.out⟩
      · go_upto_region 4 with (fail)
        go_upto_region 5 with (first
          | (go_at_call 12; refine (rkind_any _ _).mono ?_; rw [← HK.out]; rintro e w2 ⟨rfl, hb0⟩; have BK1 := Aside0.mk (heap_keep BK0.out hb0); have HB1 := Aside0.mk (below_then HB0.out HB0.out.size hb0); clear hb0))
        have hwr : wrap64 ((b : Int) + (m : Int) - (b : Int)) = (m : Int) := by have := HXL.out; simp only [wrap64]; omega
        have hw2 : (b : Int) + (m : Int) - (b : Int) = (m : Int) := by omega
        first | rw [hwr] | rw [hw2]
        have BX := Aside0.mk (heap_alloc_new w2 (.cells #[.int .i64 k, .int .i64 b, .int .i64 m, .int .i64 0] 40))
        have BK2 := Aside0.mk (heap_keep BK1.out (below_alloc (Below.refl _ w2) (.cells #[.int .i64 k, .int .i64 b, .int .i64 m, .int .i64 0] 40)))
        have HB2 := Aside0.mk (below_then HB1.out HB1.out.size (below_alloc (Below.refl _ w2) (.cells #[.int .i64 k, .int .i64 b, .int .i64 m, .int .i64 0] 40)))
        have NE : Aside0 (g4 ≠ w2.heap.size) := ⟨by have := blk_lt BK1.out; omega⟩
        have GE7 : Aside0 (w.heap.size ≤ w2.heap.size) := ⟨HB1.out.size⟩
        generalize w2.heap.size = g7 at BX NE GE7 ⊢
        generalize w2.alloc (.cells #[.int .i64 k, .int .i64 b, .int .i64 m, .int .i64 0] 40) = w3 at BX BK2 HB2 ⊢
        clear BK1 HB1 BK0 HB0 hwr hw2 hcut hcv
        have z0 : w3.cell? ⟨g7, 0, none⟩ = some (.int .i64 k) := (blk_cell BX.out 0).trans rfl
        by_cases hk0 : k = 0
        · subst hk0
          have f0 := blk_frozen BX.out 0
          go_upto_region 7 with (fail)
          have n0_ : Aside0 ((w3.setCell ⟨g7, 0, none⟩ (.int .i64 1)).heap[g7]? = some (.cells #[.int .i64 1, .int .i64 b, .int .i64 m, .int .i64 0] 40 (0, 0))) := ⟨(blk_set BX.out 0 _).trans rfl⟩
          have n1_ : Aside0 (Below w.heap.size w (w3.setCell ⟨g7, 0, none⟩ (.int .i64 1))) := ⟨below_set HB2.out GE7.out⟩
          have n2_ : Aside0 ((w3.setCell ⟨g7, 0, none⟩ (.int .i64 1)).heap[g4]? = _) := ⟨blk_far BK2.out NE.out _⟩
          generalize w3.setCell ⟨g7, 0, none⟩ (.int .i64 1) = w5 at n0_ n1_ n2_ ⊢
          clear BX HB2 BK2 z0 f0
          have BX := n0_
          have HB2 := n1_
          have BK2 := n2_
          clear n0_ n1_ n2_
          obtain ⟨w3, rfl⟩ : ∃ w3 : World, w3 = w5 := ⟨_, rfl⟩
          have z2 : w3.cell? ⟨g7, 2, none⟩ = some (.int .i64 m) := (blk_cell BX.out 2).trans rfl
          by_cases h32 : 32 < m
          · have HWR : Aside0 (wordR l b = (1, (b : Int), (m : Int), 0, 13)) := ⟨by rw [HW.out]; simp [h32]⟩
            have hd : decide ((m : Int) > 32) = true := decide_eq_true (by omega)
            clear HW
            go_wp2_with (first
              | (refine wpList_load_row rfl 40 (.tmp 7) rfl g7 rfl 40 #[.int .i64 1, .int .i64 b, .int .i64 m, .int .i64 0] (0, 0) _ BX.out Try.underlying40 rfl (by kernel_rfl) ?_)
              | (refine wpList_store_row rfl 40 (.tmp 4) (.tmp 47) rfl g4 #[.int .i64 1, .int .i64 b, .int .i64 m, .int .i64 0] rfl rfl 40 _ BK2.out (by kernel_rfl) rfl (by kernel_rfl) ?_; have n0_ : Aside0 ((w3.setRow g4 #[.int .i64 1, .int .i64 b, .int .i64 m, .int .i64 0]).heap[g4]? = some (.cells #[.int .i64 1, .int .i64 b, .int .i64 m, .int .i64 0] 40 (0, 0))) := ⟨setRow_heap _ _ _ _ _ _ BK2.out⟩; have n1_ := Aside0.mk (below_setRow HB2.out GE4.out #[.int .i64 1, .int .i64 b, .int .i64 m, .int .i64 0])))
            refine bodyPost_ret (results_ct rfl _ _ g4 40 #[.int .i64 1, .int .i64 b, .int .i64 m, .int .i64 0] (0, 0) _ rfl n0_.out Try.underlying40 rfl (by kernel_rfl)) rfl ?_
            exact ⟨by rw [HWR.out]; rfl, n1_.out⟩
          · have HWR : Aside0 (wordR l b = (1, (b : Int), (m : Int), 0, 0)) := ⟨by rw [HW.out]; simp [h32]⟩
            have hd : decide ((m : Int) > 32) = false := decide_eq_false (by omega)
            clear HW
            go_wp2_with (first
              | (refine wpList_load_row rfl 40 (.tmp 7) rfl g7 rfl 40 #[.int .i64 1, .int .i64 b, .int .i64 m, .int .i64 0] (0, 0) _ BX.out Try.underlying40 rfl (by kernel_rfl) ?_)
              | (refine wpList_store_row rfl 40 (.tmp 4) (.tmp 48) rfl g4 #[.int .i64 1, .int .i64 b, .int .i64 m, .int .i64 0] rfl rfl 40 _ BK2.out (by kernel_rfl) rfl (by kernel_rfl) ?_; have n0_ : Aside0 ((w3.setRow g4 #[.int .i64 1, .int .i64 b, .int .i64 m, .int .i64 0]).heap[g4]? = some (.cells #[.int .i64 1, .int .i64 b, .int .i64 m, .int .i64 0] 40 (0, 0))) := ⟨setRow_heap _ _ _ _ _ _ BK2.out⟩; have n1_ := Aside0.mk (below_setRow HB2.out GE4.out #[.int .i64 1, .int .i64 b, .int .i64 m, .int .i64 0])))
            refine bodyPost_ret (results_ct rfl _ _ g4 40 #[.int .i64 1, .int .i64 b, .int .i64 m, .int .i64 0] (0, 0) _ rfl n0_.out Try.underlying40 rfl (by kernel_rfl)) rfl ?_
            exact ⟨by rw [HWR.out]; rfl, n1_.out⟩
        · have HWR : Aside0 (wordR l b = (k, (b : Int), (m : Int), 0, 0)) := ⟨by rw [HW.out]; simp [hk0]⟩
          have hk1 : (k == 0) = false := beq_eq_false_iff_ne.2 hk0
          clear HW
          go_wp2_with (first
            | (refine wpList_load_row rfl 40 (.tmp 7) rfl g7 rfl 40 #[.int .i64 k, .int .i64 b, .int .i64 m, .int .i64 0] (0, 0) _ BX.out Try.underlying40 rfl (by kernel_rfl) ?_)
            | (refine wpList_store_row rfl 40 (.tmp 4) (.tmp 48) rfl g4 #[.int .i64 k, .int .i64 b, .int .i64 m, .int .i64 0] rfl rfl 40 _ BK2.out (by kernel_rfl) rfl (by kernel_rfl) ?_; have n0_ : Aside0 ((w3.setRow g4 #[.int .i64 k, .int .i64 b, .int .i64 m, .int .i64 0]).heap[g4]? = some (.cells #[.int .i64 k, .int .i64 b, .int .i64 m, .int .i64 0] 40 (0, 0))) := ⟨setRow_heap _ _ _ _ _ _ BK2.out⟩; have n1_ := Aside0.mk (below_setRow HB2.out GE4.out #[.int .i64 k, .int .i64 b, .int .i64 m, .int .i64 0])))
          refine bodyPost_ret (results_ct rfl _ _ g4 40 #[.int .i64 k, .int .i64 b, .int .i64 m, .int .i64 0] (0, 0) _ rfl n0_.out Try.underlying40 rfl (by kernel_rfl)) rfl ?_
          exact ⟨by rw [HWR.out]; rfl, n1_.out⟩
def squintref01_word.f (l0 : List Int) (a1 : Int) : Option (Int × Int × Int × Int × Int) := if 0 ≤ a1 ∧ a1 ≤ l0.length ∧ l0.length ≤ 4294967296 then some (wordR l0 a1.toNat) else none
theorem squintref01_word.calls (A0 : Option Addr) (c0 : Nat) (l0 : List Int) (a1 : Int) (r1 : Int) (r2 : Int) (r3 : Int) (r4 : Int) (r5 : Int) (w : World) (hr0 : Kd.C (Kd.int .u8) w A0 l0.length l0) (hc0 : l0.length ≤ c0) (h : squintref01_word.f l0 a1 = some (r1, r2, r3, r4, r5)) :
    Calls Try.prog 28 #[.slice A0 l0.length c0, .int .i64 a1] w fun e w' => e = .returned (.tuple #[.agg #[.int .i64 r1, .int .i64 r2, .int .i64 r3, .int .i64 r4], .int .i64 r5]) ∧ Below w.heap.size w w' := by
  unfold squintref01_word.f at h
  split at h
  · rename_i hh
    injection h with h
    obtain ⟨b, rfl⟩ := Int.eq_ofNat_of_zero_le hh.1
    have := rword_any A0 c0 l0 b w hr0 hc0 (by omega) (by omega)
    rw [Int.toNat_natCast] at h
    rw [h] at this
    exact this
  · cases h
end Go.Proofs.Ytmingnhhmaclaaa.Given
