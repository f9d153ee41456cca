import Derived.Test.YtmingnhhmaclaaaGivenB
namespace Go.Proofs.Ytmingnhhmaclaaa.Given
open Go.RowKit Go.Proofs.YtmingnhhmaclaaaW.PrintWords

theorem runLen_digit (l : List Int) (k : Nat) (h : k < runLen 36 l) : 48 ≤ rd l k ∧ rd l k ≤ 57 := by
  have hp : ∀ (l : List Int) (k : Nat), k < (l.takeWhile (predOf 36)).length → predOf 36 (l.getD k 0) = true := by
    intro l
    induction l with
    | nil => intro k h; simp at h
    | cons x l ih =>
      intro k h
      by_cases hx : predOf 36 x = true
      · rw [List.takeWhile_cons_of_pos hx] at h
        cases k with
        | zero => simpa using hx
        | succ k => simpa using ih k (by simpa using h)
      · rw [List.takeWhile_cons_of_neg hx] at h
        simp at h
  have := hp l k h
  simp only [predOf, isDigit] at this
  simp [rd] at this ⊢
  omega
theorem heap_keep {w w' : World} {o : Obj} {g : Nat} (h : w.heap[g]? = some o) (hb : Below w.heap.size w w') : w'.heap[g]? = some o := (hb.block g (Array.getElem?_eq_some_iff.1 h).1).trans h

set_option maxHeartbeats 400000 in
theorem number_bad (A : Option Addr) (c : Nat) (l : List Int) (w : World) (hr : Kd.C (Kd.int .u8) w A l.length l) (hc : l.length ≤ c) (h : numBad l = true) :
    Calls Try.prog 37 #[.slice A l.length c] w (Tok 0 0 0 0 12 w) := by
  have hm := hr.2.1
  have hn := runLen_le 36 l
  have HR := Aside0.mk hr
  clear hr
  obtain ⟨n, hN⟩ : ∃ n, n = runLen 36 l := ⟨_, rfl⟩
  unfold numBad at h
  rw [← hN] at hn h
  have HN := Aside0.mk hN
  clear hN
  have hrun : ∀ o : Obj, Calls Try.prog 23 #[.slice A l.length c, .func (.func 36) #[] #[]] (w.alloc o) fun e w' => e = .returned (.int .i64 (n : Nat)) ∧ w.alloc o = w' :=
    fun o => by rw [HN.out]; exact run_calls 36 (by simp) A c l _ (Kd.C_below HR.out ((Below.refl _ w).alloc (Nat.le_refl _) o)) hc
  have HRUN := Aside0.mk hrun
  clear hrun
  have hG : ∀ o o' : Obj, ((w.alloc o).alloc o').heap[w.heap.size]? = some o := fun o o' => heap_alloc2_old w o o'
  have HG := Aside0.mk hG
  clear hG
  have HB : ∀ o o' : Obj, Aside0 (Below w.heap.size w ((w.alloc o).alloc o')) := fun o o' => ⟨((Below.refl _ w).alloc (Nat.le_refl _) _).alloc (by simp) _⟩
  by_cases h1 : 1 < n ∧ rd l 0 = 48
  · obtain ⟨h1, h2⟩ := h1
    obtain ⟨ad, e0, hx⟩ := Kd.at_int HR.out 0 (by omega) (by omega)
    cases e0
    have hx0 : ∀ o o' : Obj, ((w.alloc o).alloc o').cell? ad = some (.int .u8 48) := fun o o' => by
      have h3 := ((HB o o').out.cell (World.block_lt_of_cell? w _ hx)).trans hx
      rw [h2] at h3
      rw [show ad.add (Int.toNat 0) = ad by simp [Addr.add]] at h3
      exact h3
    have h0l : 0 < l.length := by omega
    clear hx h2 h
    go_enter Try.func37, Try.ntmps37
    go_wp2_with (first | (go_at_call 23; refine (HRUN.out _).mono ?_; rintro e w' ⟨rfl, rfl⟩) | (go_at_call 34; refine (letter_any _ _).mono ?_; rintro e w' ⟨rfl, rfl⟩) | (refine wpList_store_row rfl 40 (.tmp 2) (.tmp 34) rfl w.heap.size #[.int .i64 0, .int .i64 0, .int .i64 0, .int .i64 0] rfl rfl 40 _ (HG.out _ _) (by kernel_rfl) rfl (by kernel_rfl) ?_))
    refine bodyPost_ret (results_ct rfl _ _ w.heap.size 40 #[.int .i64 0, .int .i64 0, .int .i64 0, .int .i64 0] (0, 0) _ rfl (setRow_heap _ _ _ _ _ _ (HG.out _ _)) Try.underlying40 rfl (by kernel_rfl)) rfl ?_
    exact ⟨rfl, below_setRow (HB _ _).out (Nat.le_refl _) _⟩
  · have hgood : n < l.length ∧ isLetter (rd l n) = true := by
      simp only [Bool.or_eq_true, Bool.and_eq_true, decide_eq_true_eq, beq_iff_eq] at h
      rcases h with h | h
      · exact absurd h h1
      · exact h
    obtain ⟨hlt, hL⟩ := hgood
    clear h
    obtain ⟨ad, e0, hx⟩ := Kd.at_int HR.out (n : Int) (by omega) (by omega)
    cases e0
    rw [Int.toNat_natCast] at hx
    have hxn : ∀ o o' : Obj, ((w.alloc o).alloc o').cell? (ad.add n) = some (.int .u8 (rd l n)) := fun o o' => ((HB o o').out.cell (World.block_lt_of_cell? w _ hx)).trans hx
    clear hx
    by_cases h2 : 1 < n
    · have h48 : rd l 0 ≠ 48 := fun e => h1 ⟨h2, e⟩
      clear h1
      have h48' : (rd l 0 == 48) = false := beq_eq_false_iff_ne.2 h48
      obtain ⟨ad', e0, hx⟩ := Kd.at_int HR.out 0 (by omega) (by omega)
      cases e0
      have hx0 : ∀ o o' : Obj, ((w.alloc o).alloc o').cell? ad = some (.int .u8 (rd l 0)) := fun o o' => by
        have h3 := ((HB o o').out.cell (World.block_lt_of_cell? w _ hx)).trans hx
        rw [show ad.add (Int.toNat 0) = ad by simp [Addr.add]] at h3
        exact h3
      clear hx
      have h0l : 0 < l.length := by omega
      go_enter Try.func37, Try.ntmps37
      go_wp2_with (first | (go_at_call 23; refine (HRUN.out _).mono ?_; rintro e w' ⟨rfl, rfl⟩) | (go_at_call 34; refine (letter_any _ _).mono ?_; rintro e w' ⟨rfl, rfl⟩) | (refine wpList_store_row rfl 40 (.tmp 2) (.tmp 34) rfl w.heap.size #[.int .i64 0, .int .i64 0, .int .i64 0, .int .i64 0] rfl rfl 40 _ (HG.out _ _) (by kernel_rfl) rfl (by kernel_rfl) ?_))
      refine bodyPost_ret (results_ct rfl _ _ w.heap.size 40 #[.int .i64 0, .int .i64 0, .int .i64 0, .int .i64 0] (0, 0) _ rfl (setRow_heap _ _ _ _ _ _ (HG.out _ _)) Try.underlying40 rfl (by kernel_rfl)) rfl ?_
      exact ⟨rfl, below_setRow (HB _ _).out (Nat.le_refl _) _⟩
    · clear h1
      go_enter Try.func37, Try.ntmps37
      go_wp2_with (first | (go_at_call 23; refine (HRUN.out _).mono ?_; rintro e w' ⟨rfl, rfl⟩) | (go_at_call 34; refine (letter_any _ _).mono ?_; rintro e w' ⟨rfl, rfl⟩) | (refine wpList_store_row rfl 40 (.tmp 2) (.tmp 34) rfl w.heap.size #[.int .i64 0, .int .i64 0, .int .i64 0, .int .i64 0] rfl rfl 40 _ (HG.out _ _) (by kernel_rfl) rfl (by kernel_rfl) ?_))
      refine bodyPost_ret (results_ct rfl _ _ w.heap.size 40 #[.int .i64 0, .int .i64 0, .int .i64 0, .int .i64 0] (0, 0) _ rfl (setRow_heap _ _ _ _ _ _ (HG.out _ _)) Try.underlying40 rfl (by kernel_rfl)) rfl ?_
      exact ⟨rfl, below_setRow (HB _ _).out (Nat.le_refl _) _⟩
end Go.Proofs.Ytmingnhhmaclaaa.Given
