import Derived.Test.YtmingnhhmaclaaaGivenC
namespace Go.Proofs.Ytmingnhhmaclaaa.Given
open Go.RowKit Go.Proofs.YtmingnhhmaclaaaW.PrintWords

theorem numFold_step (l : List Int) (n k : Nat) (v : Int) (hk : k < n) (hn : n ≤ l.length) :
    numFold ((l.take n).drop k) v = if v > (9223372036854775807 - (rd l k - 48)) / 10 then none else numFold ((l.take n).drop (k + 1)) (10 * v + (rd l k - 48)) := by
  have h : (l.take n).drop k = rd l k :: (l.take n).drop (k + 1) := by
    rw [List.drop_eq_getElem_cons (by rw [List.length_take]; omega)]
    congr 1
    simp [rd, List.getD_eq_getElem?_getD, List.getElem?_eq_getElem (show k < l.length by omega)]
  rw [h]
  rfl
/-- A number's Token and what it answers, by the fold. -/
def NumEnd (n : Nat) (r : Option Int) (w : World) (e : Ending) (w' : World) : Prop :=
  match r with
  | none => Tok 0 0 0 0 12 w e w'
  | some v => Tok 2 0 n v 0 w e w'

set_option maxHeartbeats 1000000 in
theorem number_good (A : Option Addr) (c : Nat) (l : List Int) (w : World) (hr : Kd.C (Kd.int .u8) w A l.length l) (hc : l.length ≤ c) (h : numBad l = false) :
    Calls Try.prog 37 #[.slice A l.length c] w (NumEnd (runLen 36 l) (numFold (l.take (runLen 36 l)) 0) w) := by
  have hm := hr.2.1
  have hn := runLen_le 36 l
  have hdig := runLen_digit l
  have HR := Aside0.mk hr
  clear hr
  unfold numBad at h
  obtain ⟨n, hN⟩ : ∃ n, n = runLen 36 l := ⟨_, rfl⟩
  rw [← hN] at hn h hdig ⊢
  have HN := Aside0.mk hN
  have HD := Aside0.mk hdig
  clear hN hdig
  have hrun : ∀ o : Obj, Calls Try.prog 23 #[.slice A l.length c, .func (.func 36) #[] #[]] (w.alloc o) fun e w' => e = .returned (.int .i64 (n : Nat)) ∧ w.alloc o = w' :=
    fun o => by rw [HN.out]; exact run_calls 36 (by simp) A c l _ (Kd.C_below HR.out ((Below.refl _ w).alloc (Nat.le_refl _) o)) hc
  have HRUN := Aside0.mk hrun
  clear hrun
  have hG : ∀ o o' : Obj, ((w.alloc o).alloc o').heap[w.heap.size]? = some o := fun o o' => heap_alloc2_old w o o'
  have HG := Aside0.mk hG
  have hG2 : ∀ o o' : Obj, ((w.alloc o).alloc o').heap[w.heap.size + 1]? = some o' := fun o o' => heap_alloc2_new w o o'
  have HG2 := Aside0.mk hG2
  clear hG hG2
  have HB : ∀ o o' : Obj, Aside0 (Below w.heap.size w ((w.alloc o).alloc o')) := fun o o' => ⟨((Below.refl _ w).alloc (Nat.le_refl _) _).alloc (by simp) _⟩
  have hA1 : 1 < n → rd l 0 ≠ 48 := fun h1 e => by simp [h1, e] at h
  have hA2 : n < l.length → isLetter (rd l n) = false := fun h1 => by
    simp only [Bool.or_eq_false_iff, Bool.and_eq_false_iff] at h
    rcases h.2 with h | h
    · simp [h1] at h
    · exact h
  clear h
  have hx0 : 1 < n → ∃ ad, A = some ad ∧ ∀ o o' : Obj, ((w.alloc o).alloc o').cell? ad = some (.int .u8 (rd l 0)) := fun h1 => by
    obtain ⟨ad, e0, hx⟩ := Kd.at_int HR.out 0 (by omega) (by omega)
    refine ⟨ad, e0, fun o o' => ?_⟩
    have h3 := ((HB o o').out.cell (World.block_lt_of_cell? w _ hx)).trans hx
    rw [show ad.add (Int.toNat 0) = ad by simp [Addr.add]] at h3
    exact h3
  have hxn : n < l.length → ∃ ad, A = some ad ∧ ∀ o o' : Obj, ((w.alloc o).alloc o').cell? (ad.add n) = some (.int .u8 (rd l n)) := fun h1 => by
    obtain ⟨ad, e0, hx⟩ := Kd.at_int HR.out (n : Int) (by omega) (by omega)
    rw [Int.toNat_natCast] at hx
    exact ⟨ad, e0, fun o o' => ((HB o o').out.cell (World.block_lt_of_cell? w _ hx)).trans hx⟩
  have HX0 := Aside0.mk hx0
  have HXN := Aside0.mk hxn
  have HA1 := Aside0.mk hA1
  have HA2 := Aside0.mk hA2
  clear hx0 hxn hA1 hA2
  by_cases h1 : 1 < n
  · have h48 : (rd l 0 == 48) = false := beq_eq_false_iff_ne.2 (HA1.out h1)
    obtain ⟨ad, e0, hx⟩ := HX0.out h1
    have h0l : 0 < l.length := by omega
    by_cases h2 : n < l.length
    · have hL := HA2.out h2
      obtain ⟨ad', e1, hx'⟩ := HXN.out h2
      subst e0
      cases e1
      go_enter Try.func37, Try.ntmps37
      go_wp2_with (first | (go_at_call 23; refine (HRUN.out _).mono ?_; rintro e w' ⟨rfl, rfl⟩) | (go_at_call 34; refine (letter_any _ _).mono ?_; rintro e w' ⟨rfl, rfl⟩))
      try clear hx
      try clear hx'
      go_loopw [39] (fun i wr => ∃ (k : Nat) (v : Int), i = .int .i64 k ∧ k ≤ n ∧ 0 ≤ v ∧ v ≤ 9223372036854775807 ∧ Aside0 (numFold (l.take n) 0 = numFold ((l.take n).drop k) v) ∧ Aside0 (wr.heap[w.heap.size]? = some (.cells #[.int .i64 0, .int .i64 0, .int .i64 0, .int .i64 0] 40 (0, 0))) ∧ Aside0 (wr.heap[w.heap.size + 1]? = some (.cells #[.int .i64 2, .int .i64 0, .int .i64 n, .int .i64 v] 40 (0, 0))) ∧ Aside0 (Below w.heap.size w wr)) (fun i _ => n - (intOf i).toNat)
      case atStart => exact ⟨0, 0, rfl, by omega, by omega, by omega, ⟨rfl⟩, ⟨HG.out _ _⟩, ⟨HG2.out _ _⟩, HB _ _⟩
      case round =>
        obtain ⟨k, v, rfl, hk, hv0, hv1, HF, H0, H1, HBW⟩ := hrel
        by_cases hlt : k < n
        · obtain ⟨hd1, hd2⟩ := HD.out k hlt
          obtain ⟨adk, ek, hxk⟩ := Kd.at_int HR.out (k : Int) (by omega) (by omega)
          cases ek
          rw [Int.toNat_natCast] at hxk
          replace hxk := (HBW.out.cell (World.block_lt_of_cell? w _ hxk)).trans hxk
          have hst := numFold_step l n k v hlt (by omega)
          have hc3 := cell_of_row wr (w.heap.size + 1) 3 _ _ _ H1.out
          have hf3 := frozen_of_row wr (w.heap.size + 1) 3 _ _ H1.out
          replace hc3 : wr.cell? ⟨w.heap.size + 1, 3, none⟩ = some (.int .i64 v) := hc3
          have HST := Aside0.mk hst
          clear hst
          by_cases hov : (9223372036854775807 - (rd l k - 48)) / 10 < v
          · have HE : Aside0 (numFold (l.take n) 0 = none) := ⟨by rw [HF.out, HST.out, if_pos hov]⟩
            go_wp2_with (refine wpList_store_row rfl 40 (.tmp 2) (.tmp 52) rfl w.heap.size #[.int .i64 0, .int .i64 0, .int .i64 0, .int .i64 0] rfl rfl 40 _ H0.out (by kernel_rfl) rfl (by kernel_rfl) ?_)
            refine bodyPost_ret (results_ct rfl _ _ w.heap.size 40 #[.int .i64 0, .int .i64 0, .int .i64 0, .int .i64 0] (0, 0) _ rfl (setRow_heap _ _ _ _ _ _ H0.out) Try.underlying40 rfl (by kernel_rfl)) rfl ?_
            rw [HE.out]
            exact ⟨rfl, below_setRow HBW.out (Nat.le_refl _) _⟩
          · have HE : Aside0 (numFold (l.take n) 0 = numFold ((l.take n).drop (k + 1)) (10 * v + (rd l k - 48))) := ⟨by rw [HF.out, HST.out, if_neg hov]⟩
            have hb1 : 10 * v + (rd l k - 48) ≤ 9223372036854775807 := by omega
            have hb0 : 0 ≤ 10 * v + (rd l k - 48) := by omega
            go_wp2
            go_roundw
            case rel => exact ⟨k + 1, 10 * v + (rd l k - 48), by go_num, by omega, hb0, hb1, HE, ⟨(heap_setCell_other _ _ _ _ (by simp)).trans H0.out⟩, ⟨heap_setCell_same _ _ _ _ _ _ H1.out⟩, ⟨HBW.out.setCell (by simp) _⟩⟩
            case measure => simp [intOf]; omega
        · obtain rfl : k = n := by omega
          have HE : Aside0 (numFold (l.take k) 0 = some v) := ⟨by rw [HF.out, List.drop_of_length_le (by rw [List.length_take]; omega)]; rfl⟩
          go_wp2_with (first | (refine wpList_load_row rfl 40 (.tmp 5) rfl (w.heap.size + 1) rfl 40 _ _ _ H1.out Try.underlying40 rfl (by kernel_rfl) ?_) | (refine wpList_store_row rfl 40 (.tmp 2) (.tmp 60) rfl w.heap.size #[.int .i64 2, .int .i64 0, .int .i64 k, .int .i64 v] rfl rfl 40 _ H0.out (by kernel_rfl) rfl (by kernel_rfl) ?_))
          refine bodyPost_ret (results_ct rfl _ _ w.heap.size 40 #[.int .i64 2, .int .i64 0, .int .i64 k, .int .i64 v] (0, 0) _ rfl (setRow_heap _ _ _ _ _ _ H0.out) Try.underlying40 rfl (by kernel_rfl)) rfl ?_
          rw [HE.out]
          exact ⟨rfl, below_setRow HBW.out (Nat.le_refl _) _⟩
    · subst e0
      go_enter Try.func37, Try.ntmps37
      go_wp2_with (first | (go_at_call 23; refine (HRUN.out _).mono ?_; rintro e w' ⟨rfl, rfl⟩) | (go_at_call 34; refine (letter_any _ _).mono ?_; rintro e w' ⟨rfl, rfl⟩))
      try clear hx
      try clear hx'
      go_loopw [39] (fun i wr => ∃ (k : Nat) (v : Int), i = .int .i64 k ∧ k ≤ n ∧ 0 ≤ v ∧ v ≤ 9223372036854775807 ∧ Aside0 (numFold (l.take n) 0 = numFold ((l.take n).drop k) v) ∧ Aside0 (wr.heap[w.heap.size]? = some (.cells #[.int .i64 0, .int .i64 0, .int .i64 0, .int .i64 0] 40 (0, 0))) ∧ Aside0 (wr.heap[w.heap.size + 1]? = some (.cells #[.int .i64 2, .int .i64 0, .int .i64 n, .int .i64 v] 40 (0, 0))) ∧ Aside0 (Below w.heap.size w wr)) (fun i _ => n - (intOf i).toNat)
      case atStart => exact ⟨0, 0, rfl, by omega, by omega, by omega, ⟨rfl⟩, ⟨HG.out _ _⟩, ⟨HG2.out _ _⟩, HB _ _⟩
      case round =>
        obtain ⟨k, v, rfl, hk, hv0, hv1, HF, H0, H1, HBW⟩ := hrel
        by_cases hlt : k < n
        · obtain ⟨hd1, hd2⟩ := HD.out k hlt
          obtain ⟨adk, ek, hxk⟩ := Kd.at_int HR.out (k : Int) (by omega) (by omega)
          cases ek
          rw [Int.toNat_natCast] at hxk
          replace hxk := (HBW.out.cell (World.block_lt_of_cell? w _ hxk)).trans hxk
          have hst := numFold_step l n k v hlt (by omega)
          have hc3 := cell_of_row wr (w.heap.size + 1) 3 _ _ _ H1.out
          have hf3 := frozen_of_row wr (w.heap.size + 1) 3 _ _ H1.out
          replace hc3 : wr.cell? ⟨w.heap.size + 1, 3, none⟩ = some (.int .i64 v) := hc3
          have HST := Aside0.mk hst
          clear hst
          by_cases hov : (9223372036854775807 - (rd l k - 48)) / 10 < v
          · have HE : Aside0 (numFold (l.take n) 0 = none) := ⟨by rw [HF.out, HST.out, if_pos hov]⟩
            go_wp2_with (refine wpList_store_row rfl 40 (.tmp 2) (.tmp 52) rfl w.heap.size #[.int .i64 0, .int .i64 0, .int .i64 0, .int .i64 0] rfl rfl 40 _ H0.out (by kernel_rfl) rfl (by kernel_rfl) ?_)
            refine bodyPost_ret (results_ct rfl _ _ w.heap.size 40 #[.int .i64 0, .int .i64 0, .int .i64 0, .int .i64 0] (0, 0) _ rfl (setRow_heap _ _ _ _ _ _ H0.out) Try.underlying40 rfl (by kernel_rfl)) rfl ?_
            rw [HE.out]
            exact ⟨rfl, below_setRow HBW.out (Nat.le_refl _) _⟩
          · have HE : Aside0 (numFold (l.take n) 0 = numFold ((l.take n).drop (k + 1)) (10 * v + (rd l k - 48))) := ⟨by rw [HF.out, HST.out, if_neg hov]⟩
            have hb1 : 10 * v + (rd l k - 48) ≤ 9223372036854775807 := by omega
            have hb0 : 0 ≤ 10 * v + (rd l k - 48) := by omega
            go_wp2
            go_roundw
            case rel => exact ⟨k + 1, 10 * v + (rd l k - 48), by go_num, by omega, hb0, hb1, HE, ⟨(heap_setCell_other _ _ _ _ (by simp)).trans H0.out⟩, ⟨heap_setCell_same _ _ _ _ _ _ H1.out⟩, ⟨HBW.out.setCell (by simp) _⟩⟩
            case measure => simp [intOf]; omega
        · obtain rfl : k = n := by omega
          have HE : Aside0 (numFold (l.take k) 0 = some v) := ⟨by rw [HF.out, List.drop_of_length_le (by rw [List.length_take]; omega)]; rfl⟩
          go_wp2_with (first | (refine wpList_load_row rfl 40 (.tmp 5) rfl (w.heap.size + 1) rfl 40 _ _ _ H1.out Try.underlying40 rfl (by kernel_rfl) ?_) | (refine wpList_store_row rfl 40 (.tmp 2) (.tmp 60) rfl w.heap.size #[.int .i64 2, .int .i64 0, .int .i64 k, .int .i64 v] rfl rfl 40 _ H0.out (by kernel_rfl) rfl (by kernel_rfl) ?_))
          refine bodyPost_ret (results_ct rfl _ _ w.heap.size 40 #[.int .i64 2, .int .i64 0, .int .i64 k, .int .i64 v] (0, 0) _ rfl (setRow_heap _ _ _ _ _ _ H0.out) Try.underlying40 rfl (by kernel_rfl)) rfl ?_
          rw [HE.out]
          exact ⟨rfl, below_setRow HBW.out (Nat.le_refl _) _⟩
  · by_cases h2 : n < l.length
    · have hL := HA2.out h2
      obtain ⟨ad', e1, hx'⟩ := HXN.out h2
      subst e1
      go_enter Try.func37, Try.ntmps37
      go_wp2_with (first | (go_at_call 23; refine (HRUN.out _).mono ?_; rintro e w' ⟨rfl, rfl⟩) | (go_at_call 34; refine (letter_any _ _).mono ?_; rintro e w' ⟨rfl, rfl⟩))
      try clear hx
      try clear hx'
      go_loopw [39] (fun i wr => ∃ (k : Nat) (v : Int), i = .int .i64 k ∧ k ≤ n ∧ 0 ≤ v ∧ v ≤ 9223372036854775807 ∧ Aside0 (numFold (l.take n) 0 = numFold ((l.take n).drop k) v) ∧ Aside0 (wr.heap[w.heap.size]? = some (.cells #[.int .i64 0, .int .i64 0, .int .i64 0, .int .i64 0] 40 (0, 0))) ∧ Aside0 (wr.heap[w.heap.size + 1]? = some (.cells #[.int .i64 2, .int .i64 0, .int .i64 n, .int .i64 v] 40 (0, 0))) ∧ Aside0 (Below w.heap.size w wr)) (fun i _ => n - (intOf i).toNat)
      case atStart => exact ⟨0, 0, rfl, by omega, by omega, by omega, ⟨rfl⟩, ⟨HG.out _ _⟩, ⟨HG2.out _ _⟩, HB _ _⟩
      case round =>
        obtain ⟨k, v, rfl, hk, hv0, hv1, HF, H0, H1, HBW⟩ := hrel
        by_cases hlt : k < n
        · obtain ⟨hd1, hd2⟩ := HD.out k hlt
          obtain ⟨adk, ek, hxk⟩ := Kd.at_int HR.out (k : Int) (by omega) (by omega)
          cases ek
          rw [Int.toNat_natCast] at hxk
          replace hxk := (HBW.out.cell (World.block_lt_of_cell? w _ hxk)).trans hxk
          have hst := numFold_step l n k v hlt (by omega)
          have hc3 := cell_of_row wr (w.heap.size + 1) 3 _ _ _ H1.out
          have hf3 := frozen_of_row wr (w.heap.size + 1) 3 _ _ H1.out
          replace hc3 : wr.cell? ⟨w.heap.size + 1, 3, none⟩ = some (.int .i64 v) := hc3
          have HST := Aside0.mk hst
          clear hst
          by_cases hov : (9223372036854775807 - (rd l k - 48)) / 10 < v
          · have HE : Aside0 (numFold (l.take n) 0 = none) := ⟨by rw [HF.out, HST.out, if_pos hov]⟩
            go_wp2_with (refine wpList_store_row rfl 40 (.tmp 2) (.tmp 52) rfl w.heap.size #[.int .i64 0, .int .i64 0, .int .i64 0, .int .i64 0] rfl rfl 40 _ H0.out (by kernel_rfl) rfl (by kernel_rfl) ?_)
            refine bodyPost_ret (results_ct rfl _ _ w.heap.size 40 #[.int .i64 0, .int .i64 0, .int .i64 0, .int .i64 0] (0, 0) _ rfl (setRow_heap _ _ _ _ _ _ H0.out) Try.underlying40 rfl (by kernel_rfl)) rfl ?_
            rw [HE.out]
            exact ⟨rfl, below_setRow HBW.out (Nat.le_refl _) _⟩
          · have HE : Aside0 (numFold (l.take n) 0 = numFold ((l.take n).drop (k + 1)) (10 * v + (rd l k - 48))) := ⟨by rw [HF.out, HST.out, if_neg hov]⟩
            have hb1 : 10 * v + (rd l k - 48) ≤ 9223372036854775807 := by omega
            have hb0 : 0 ≤ 10 * v + (rd l k - 48) := by omega
            go_wp2
            go_roundw
            case rel => exact ⟨k + 1, 10 * v + (rd l k - 48), by go_num, by omega, hb0, hb1, HE, ⟨(heap_setCell_other _ _ _ _ (by simp)).trans H0.out⟩, ⟨heap_setCell_same _ _ _ _ _ _ H1.out⟩, ⟨HBW.out.setCell (by simp) _⟩⟩
            case measure => simp [intOf]; omega
        · obtain rfl : k = n := by omega
          have HE : Aside0 (numFold (l.take k) 0 = some v) := ⟨by rw [HF.out, List.drop_of_length_le (by rw [List.length_take]; omega)]; rfl⟩
          go_wp2_with (first | (refine wpList_load_row rfl 40 (.tmp 5) rfl (w.heap.size + 1) rfl 40 _ _ _ H1.out Try.underlying40 rfl (by kernel_rfl) ?_) | (refine wpList_store_row rfl 40 (.tmp 2) (.tmp 60) rfl w.heap.size #[.int .i64 2, .int .i64 0, .int .i64 k, .int .i64 v] rfl rfl 40 _ H0.out (by kernel_rfl) rfl (by kernel_rfl) ?_))
          refine bodyPost_ret (results_ct rfl _ _ w.heap.size 40 #[.int .i64 2, .int .i64 0, .int .i64 k, .int .i64 v] (0, 0) _ rfl (setRow_heap _ _ _ _ _ _ H0.out) Try.underlying40 rfl (by kernel_rfl)) rfl ?_
          rw [HE.out]
          exact ⟨rfl, below_setRow HBW.out (Nat.le_refl _) _⟩
    · go_enter Try.func37, Try.ntmps37
      go_wp2_with (first | (go_at_call 23; refine (HRUN.out _).mono ?_; rintro e w' ⟨rfl, rfl⟩) | (go_at_call 34; refine (letter_any _ _).mono ?_; rintro e w' ⟨rfl, rfl⟩))
      try clear hx
      try clear hx'
      go_loopw [39] (fun i wr => ∃ (k : Nat) (v : Int), i = .int .i64 k ∧ k ≤ n ∧ 0 ≤ v ∧ v ≤ 9223372036854775807 ∧ Aside0 (numFold (l.take n) 0 = numFold ((l.take n).drop k) v) ∧ Aside0 (wr.heap[w.heap.size]? = some (.cells #[.int .i64 0, .int .i64 0, .int .i64 0, .int .i64 0] 40 (0, 0))) ∧ Aside0 (wr.heap[w.heap.size + 1]? = some (.cells #[.int .i64 2, .int .i64 0, .int .i64 n, .int .i64 v] 40 (0, 0))) ∧ Aside0 (Below w.heap.size w wr)) (fun i _ => n - (intOf i).toNat)
      case atStart => exact ⟨0, 0, rfl, by omega, by omega, by omega, ⟨rfl⟩, ⟨HG.out _ _⟩, ⟨HG2.out _ _⟩, HB _ _⟩
      case round =>
        obtain ⟨k, v, rfl, hk, hv0, hv1, HF, H0, H1, HBW⟩ := hrel
        by_cases hlt : k < n
        · obtain ⟨hd1, hd2⟩ := HD.out k hlt
          obtain ⟨adk, ek, hxk⟩ := Kd.at_int HR.out (k : Int) (by omega) (by omega)
          cases ek
          rw [Int.toNat_natCast] at hxk
          replace hxk := (HBW.out.cell (World.block_lt_of_cell? w _ hxk)).trans hxk
          have hst := numFold_step l n k v hlt (by omega)
          have hc3 := cell_of_row wr (w.heap.size + 1) 3 _ _ _ H1.out
          have hf3 := frozen_of_row wr (w.heap.size + 1) 3 _ _ H1.out
          replace hc3 : wr.cell? ⟨w.heap.size + 1, 3, none⟩ = some (.int .i64 v) := hc3
          have HST := Aside0.mk hst
          clear hst
          by_cases hov : (9223372036854775807 - (rd l k - 48)) / 10 < v
          · have HE : Aside0 (numFold (l.take n) 0 = none) := ⟨by rw [HF.out, HST.out, if_pos hov]⟩
            go_wp2_with (refine wpList_store_row rfl 40 (.tmp 2) (.tmp 52) rfl w.heap.size #[.int .i64 0, .int .i64 0, .int .i64 0, .int .i64 0] rfl rfl 40 _ H0.out (by kernel_rfl) rfl (by kernel_rfl) ?_)
            refine bodyPost_ret (results_ct rfl _ _ w.heap.size 40 #[.int .i64 0, .int .i64 0, .int .i64 0, .int .i64 0] (0, 0) _ rfl (setRow_heap _ _ _ _ _ _ H0.out) Try.underlying40 rfl (by kernel_rfl)) rfl ?_
            rw [HE.out]
            exact ⟨rfl, below_setRow HBW.out (Nat.le_refl _) _⟩
          · have HE : Aside0 (numFold (l.take n) 0 = numFold ((l.take n).drop (k + 1)) (10 * v + (rd l k - 48))) := ⟨by rw [HF.out, HST.out, if_neg hov]⟩
            have hb1 : 10 * v + (rd l k - 48) ≤ 9223372036854775807 := by omega
            have hb0 : 0 ≤ 10 * v + (rd l k - 48) := by omega
            go_wp2
            go_roundw
            case rel => exact ⟨k + 1, 10 * v + (rd l k - 48), by go_num, by omega, hb0, hb1, HE, ⟨(heap_setCell_other _ _ _ _ (by simp)).trans H0.out⟩, ⟨heap_setCell_same _ _ _ _ _ _ H1.out⟩, ⟨HBW.out.setCell (by simp) _⟩⟩
            case measure => simp [intOf]; omega
        · obtain rfl : k = n := by omega
          have HE : Aside0 (numFold (l.take k) 0 = some v) := ⟨by rw [HF.out, List.drop_of_length_le (by rw [List.length_take]; omega)]; rfl⟩
          go_wp2_with (first | (refine wpList_load_row rfl 40 (.tmp 5) rfl (w.heap.size + 1) rfl 40 _ _ _ H1.out Try.underlying40 rfl (by kernel_rfl) ?_) | (refine wpList_store_row rfl 40 (.tmp 2) (.tmp 60) rfl w.heap.size #[.int .i64 2, .int .i64 0, .int .i64 k, .int .i64 v] rfl rfl 40 _ H0.out (by kernel_rfl) rfl (by kernel_rfl) ?_))
          refine bodyPost_ret (results_ct rfl _ _ w.heap.size 40 #[.int .i64 2, .int .i64 0, .int .i64 k, .int .i64 v] (0, 0) _ rfl (setRow_heap _ _ _ _ _ _ H0.out) Try.underlying40 rfl (by kernel_rfl)) rfl ?_
          rw [HE.out]
          exact ⟨rfl, below_setRow HBW.out (Nat.le_refl _) _⟩
end Go.Proofs.Ytmingnhhmaclaaa.Given
