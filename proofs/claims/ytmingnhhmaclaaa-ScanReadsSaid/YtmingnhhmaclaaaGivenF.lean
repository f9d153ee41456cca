import Derived.Test.YtmingnhhmaclaaaGivenE
namespace Go.Proofs.Ytmingnhhmaclaaa.Given
open Go.RowKit Go.Proofs.YtmingnhhmaclaaaW.PrintWords

theorem number_any (A : Option Addr) (c : Nat) (l : List Int) (w : World) (hr : Kd.C (Kd.int .u8) w A l.length l) (hc : l.length ≤ c) :
    Calls Try.prog 37 #[.slice A l.length c] w (TokT (numberOf l) w) := by
  unfold numberOf
  by_cases h : numBad l = true
  · rw [if_pos h]; exact number_bad A c l w hr hc h
  · rw [if_neg h]
    refine (number_good A c l w hr hc (by simpa using h)).mono ?_
    intro e w' he
    unfold NumEnd at he
    split at he
    · rename_i hf; rw [hf]; exact he
    · rename_i v hf; rw [hf]; exact he

/-- What scan.token answers, of what is not empty. -/
def tokenOf (l : List Int) : Int × Int × Int × Int × Int := if isLetter (rd l 0) = true then wordOf l else if isDigit (rd l 0) = true then numberOf l else signOf l
theorem tokT_mono {r : Int × Int × Int × Int × Int} {w W : World} (hb : Below w.heap.size w W) {e : Ending} {w' : World} (h : TokT r W e w') : TokT r w e w' :=
  ⟨h.1, below_then hb hb.size h.2⟩

set_option maxHeartbeats 400000 in
theorem token_any (A : Option Addr) (c : Nat) (l : List Int) (w : World) (hr : Kd.C (Kd.int .u8) w A l.length l) (hc : l.length ≤ c) (h0 : 0 < l.length) :
    Calls Try.prog 25 #[.slice A l.length c] w (TokT (tokenOf l) w) := by
  have hm := hr.2.1
  have HR := Aside0.mk hr
  clear hr
  obtain ⟨ad, e0, hx⟩ := Kd.at_int HR.out 0 (by omega) (by omega)
  have HB : ∀ o : Obj, Aside0 (Below w.heap.size w (w.alloc o)) := fun o => ⟨(Below.refl _ w).alloc (Nat.le_refl _) _⟩
  have hx0 : ∀ o : Obj, (w.alloc o).cell? ad = some (.int .u8 (rd l 0)) := fun o => by
    have h3 := ((HB o).out.cell (World.block_lt_of_cell? w _ hx)).trans hx
    rw [show ad.add (Int.toNat 0) = ad by simp [Addr.add]] at h3
    exact h3
  clear hx
  subst e0
  have HRC : ∀ o : Obj, Aside0 (Kd.C (Kd.int .u8) (w.alloc o) (some ad) l.length l) := fun o => ⟨Kd.C_below HR.out (HB o).out⟩
  have HKEEP : Aside0 (∀ (o : Obj) (w' : World), Below (w.alloc o).heap.size (w.alloc o) w' → w'.heap[w.heap.size]? = some o) := ⟨fun o w' hb => (hb.block w.heap.size (by simp)).trans (heap_alloc_new w o)⟩
  have hcall : ∀ (f : Nat) (r : Int × Int × Int × Int × Int) (o : Obj), Calls Try.prog f #[.slice (some ad) l.length c] (w.alloc o) (TokT r (w.alloc o)) →
      Calls Try.prog f #[.slice (some ad) l.length c] (w.alloc o) fun e w' => ∃ r1 r2 r3 r4 r5 : Int, e = .returned (.tuple #[.agg #[.int .i64 r1, .int .i64 r2, .int .i64 r3, .int .i64 r4], .int .i64 r5]) ∧ Aside0 (r = (r1, r2, r3, r4, r5)) ∧ Aside0 (Below (w.alloc o).heap.size (w.alloc o) w') := by
    intro f r o h
    refine h.mono ?_
    rintro e w' ⟨he, hb⟩
    exact ⟨r.1, r.2.1, r.2.2.1, r.2.2.2.1, r.2.2.2.2, he, ⟨rfl⟩, ⟨hb⟩⟩
  have hW : ∀ o : Obj, _ := fun o => hcall 35 (wordOf l) o (word_any (some ad) c l _ (HRC o).out hc)
  have hN : ∀ o : Obj, _ := fun o => hcall 37 (numberOf l) o (number_any (some ad) c l _ (HRC o).out hc)
  have hS : ∀ o : Obj, _ := fun o => hcall 38 (signOf l) o (sign_any (some ad) c l _ (HRC o).out hc)
  have HW := Aside0.mk hW
  have HN := Aside0.mk hN
  have HS := Aside0.mk hS
  clear hW hN hS hcall
  by_cases hl : isLetter (rd l 0) = true
  · have HE : Aside0 (tokenOf l = wordOf l) := ⟨by unfold tokenOf; rw [if_pos hl]⟩
    go_enter Try.func25, Try.ntmps25
    go_wp2_with (first | (go_at_call 34; refine (letter_any _ _).mono ?_; rintro e w' ⟨rfl, rfl⟩) | (go_at_call 35; refine (HW.out _).mono ?_; rintro e w' ⟨r1, r2, r3, r4, r5, rfl, hq, hb⟩; have hG := HKEEP.out _ _ hb.out) | (refine wpList_store_row rfl 40 (.tmp 2) (.tmp 11) rfl w.heap.size #[.int .i64 r1, .int .i64 r2, .int .i64 r3, .int .i64 r4] rfl rfl 40 _ hG (by kernel_rfl) rfl (by kernel_rfl) ?_))
    refine bodyPost_ret (results_ct rfl _ _ w.heap.size 40 #[.int .i64 r1, .int .i64 r2, .int .i64 r3, .int .i64 r4] (0, 0) _ rfl (setRow_heap _ _ _ _ _ _ hG) Try.underlying40 rfl (by kernel_rfl)) rfl ?_
    rw [HE.out, hq.out]
    exact ⟨rfl, below_setRow (below_then (HB _).out (by simp) hb.out) (Nat.le_refl _) _⟩
  · have hl' : isLetter (rd l 0) = false := by simpa using hl
    by_cases hd : isDigit (rd l 0) = true
    · have HE : Aside0 (tokenOf l = numberOf l) := ⟨by unfold tokenOf; rw [if_neg hl, if_pos hd]⟩
      clear hl
      go_enter Try.func25, Try.ntmps25
      go_wp2_with (first | (go_at_call 34; refine (letter_any _ _).mono ?_; rintro e w' ⟨rfl, rfl⟩) | (go_at_call 36; refine (digit_any _ _).mono ?_; rintro e w' ⟨rfl, rfl⟩) | (go_at_call 37; refine (HN.out _).mono ?_; rintro e w' ⟨r1, r2, r3, r4, r5, rfl, hq, hb⟩; have hG := HKEEP.out _ _ hb.out) | (refine wpList_store_row rfl 40 (.tmp 2) (.tmp 20) rfl w.heap.size #[.int .i64 r1, .int .i64 r2, .int .i64 r3, .int .i64 r4] rfl rfl 40 _ hG (by kernel_rfl) rfl (by kernel_rfl) ?_))
      refine bodyPost_ret (results_ct rfl _ _ w.heap.size 40 #[.int .i64 r1, .int .i64 r2, .int .i64 r3, .int .i64 r4] (0, 0) _ rfl (setRow_heap _ _ _ _ _ _ hG) Try.underlying40 rfl (by kernel_rfl)) rfl ?_
      rw [HE.out, hq.out]
      exact ⟨rfl, below_setRow (below_then (HB _).out (by simp) hb.out) (Nat.le_refl _) _⟩
    · have hd' : isDigit (rd l 0) = false := by simpa using hd
      have HE : Aside0 (tokenOf l = signOf l) := ⟨by unfold tokenOf; rw [if_neg hl, if_neg hd]⟩
      clear hl hd
      go_enter Try.func25, Try.ntmps25
      go_wp2_with (first | (go_at_call 34; refine (letter_any _ _).mono ?_; rintro e w' ⟨rfl, rfl⟩) | (go_at_call 36; refine (digit_any _ _).mono ?_; rintro e w' ⟨rfl, rfl⟩) | (go_at_call 38; refine (HS.out _).mono ?_; rintro e w' ⟨r1, r2, r3, r4, r5, rfl, hq, hb⟩; have hG := HKEEP.out _ _ hb.out) | (refine wpList_store_row rfl 40 (.tmp 2) (.tmp 24) rfl w.heap.size #[.int .i64 r1, .int .i64 r2, .int .i64 r3, .int .i64 r4] rfl rfl 40 _ hG (by kernel_rfl) rfl (by kernel_rfl) ?_))
      refine bodyPost_ret (results_ct rfl _ _ w.heap.size 40 #[.int .i64 r1, .int .i64 r2, .int .i64 r3, .int .i64 r4] (0, 0) _ rfl (setRow_heap _ _ _ _ _ _ hG) Try.underlying40 rfl (by kernel_rfl)) rfl ?_
      rw [HE.out, hq.out]
      exact ⟨rfl, below_setRow (below_then (HB _).out (by simp) hb.out) (Nat.le_refl _) _⟩
end Go.Proofs.Ytmingnhhmaclaaa.Given
