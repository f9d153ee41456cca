import Derived.Test.YtmingnhhmaclaaaGivenA
import Derived.Laws.CopyOwn
namespace Go.Proofs.Ytmingnhhmaclaaa.Given
open Go.RowKit Go.Proofs.YtmingnhhmaclaaaW.PrintWords
/-! ### word, number -/
def wordOf (l : List Int) : Int × Int × Int × Int × Int :=
  if kindOf (strOfNums (l.take (runLen 39 l))) = 0 then (if runLen 39 l > 32 then (0, 0, 0, 0, 13) else (1, 0, (runLen 39 l : Nat), 0, 0)) else (kindOf (strOfNums (l.take (runLen 39 l))), 0, (runLen 39 l : Nat), 0, 0)
def scan_word.f (l0 : List Int) : Option (Int × Int × Int × Int × Int) := some (wordOf l0)
def numFold : List Int → Int → Option Int
  | [], v => some v
  | c :: l, v => if v > (9223372036854775807 - (c - 48)) / 10 then none else numFold l (10 * v + (c - 48))
def numBad (l : List Int) : Bool := decide (1 < runLen 36 l) && (rd l 0 == 48) || decide (runLen 36 l < l.length) && isLetter (rd l (runLen 36 l : Nat))
def numberOf (l : List Int) : Int × Int × Int × Int × Int :=
  if numBad l = true then (0, 0, 0, 0, 12) else (numFold (l.take (runLen 36 l)) 0).elim (0, 0, 0, 0, 12) fun v => (2, 0, (runLen 36 l : Nat), v, 0)
def scan_number.f (l0 : List Int) : Option (Int × Int × Int × Int × Int) := some (numberOf l0)

theorem runLen_le (F : Nat) (l : List Int) : runLen F l ≤ l.length := by
  unfold runLen
  exact (List.takeWhile_sublist _).length_le
theorem conv_take {w : World} {A : Option Addr} {c : Nat} {l : List Int} (hr : Kd.C (Kd.int .u8) w A l.length l) (n : Nat) (hn : n ≤ l.length) :
    (convert 26 9 (.slice A n c)).run Try.prog w = .ok (.string (strOfNums (l.take n))) w := by
  have h := Kd.C_string (P := Try.prog) (A := A) (c := c) Try.underlying26 Try.underlying5 Try.underlying9 (Kd.C_take hr hn)
  rwa [List.length_take, Nat.min_eq_left hn] at h
theorem run_calls (F : Nat) (hF : F = 24 ∨ F = 36 ∨ F = 39) (A : Option Addr) (c : Nat) (l : List Int) (w : World) (hr : Kd.C (Kd.int .u8) w A l.length l) (hc : l.length ≤ c) :
    Calls Try.prog 23 #[.slice A l.length c, .func (.func F) #[] #[]] w fun e w' => e = .returned (.int .i64 (runLen F l : Nat)) ∧ w = w' := by
  rcases hF with rfl | rfl | rfl
  · exact run_24 A c l w hr hc hr.2.1
  · exact run_36 A c l w hr hc hr.2.1
  · exact run_39 A c l w hr hc hr.2.1
def Tok (r1 r2 r3 r4 r5 : Int) (w : World) (e : Ending) (w' : World) : Prop :=
  e = .returned (.tuple #[.agg #[.int .i64 r1, .int .i64 r2, .int .i64 r3, .int .i64 r4], .int .i64 r5]) ∧ Below w.heap.size w w'

set_option maxHeartbeats 400000 in
theorem word_any (A : Option Addr) (c : Nat) (l : List Int) (w : World) (hr : Kd.C (Kd.int .u8) w A l.length l) (hc : l.length ≤ c) :
    Calls Try.prog 35 #[.slice A l.length c] w (Tok (wordOf l).1 (wordOf l).2.1 (wordOf l).2.2.1 (wordOf l).2.2.2.1 (wordOf l).2.2.2.2 w) := by
  have hn := runLen_le 39 l
  have hm := hr.2.1
  have hcv : ∀ o : Obj, (convert 26 9 (.slice A (runLen 39 l) c)).run Try.prog (w.alloc o) = .ok (.string (strOfNums (l.take (runLen 39 l)))) (w.alloc o) :=
    fun o => conv_take (Kd.C_below hr ((Below.refl _ w).alloc (Nat.le_refl _) o)) _ hn
  have HR := Aside0.mk hr
  clear hr
  obtain ⟨n, hN⟩ : ∃ n, n = runLen 39 l := ⟨_, rfl⟩
  rw [← hN] at hn hcv
  obtain ⟨k, hK⟩ : ∃ k, k = kindOf (strOfNums (l.take n)) := ⟨_, rfl⟩
  have HW : Aside0 (wordOf l = if k = 0 then (if n > 32 then (0, 0, 0, 0, 13) else (1, 0, (n : Int), 0, 0)) else (k, 0, (n : Int), 0, 0)) := ⟨by unfold wordOf; rw [← hN, ← hK]⟩
  have HK := Aside0.mk hK
  have HN := Aside0.mk hN
  clear hK hN
  have hrun : ∀ o : Obj, Calls Try.prog 23 #[.slice A l.length c, .func (.func 39) #[] #[]] (w.alloc o) fun e w' => e = .returned (.int .i64 (n : Nat)) ∧ w.alloc o = w' :=
    fun o => by rw [HN.out]; exact run_calls 39 (by simp) A c l _ (Kd.C_below HR.out ((Below.refl _ w).alloc (Nat.le_refl _) o)) hc
  have HRUN := Aside0.mk hrun
  clear hrun
  have hkeep : ∀ (o : Obj) (w' : World), Below (w.alloc o).heap.size (w.alloc o) w' → w'.heap[w.heap.size]? = some o := fun o w' hb => (hb.block w.heap.size (by simp)).trans (heap_alloc_new w o)
  have HKEEP := Aside0.mk hkeep
  clear hkeep
  by_cases hk0 : k = 0
  · subst hk0
    by_cases hn2 : n ≤ 32
    · have HW' : Aside0 (wordOf l = (1, 0, (n : Int), 0, 0)) := ⟨by rw [HW.out, if_pos rfl, if_neg (by omega)]⟩
      go_enter Try.func35, Try.ntmps35
      go_wp2_with (first | (go_at_call 23; refine (HRUN.out _).mono ?_; rintro e w' ⟨rfl, rfl⟩) | (go_at_call 10; refine (kind_any _ _).mono ?_; rw [← HK.out]; rintro e w' ⟨rfl, hb⟩; have hG := HKEEP.out _ _ hb) | (refine wpList_store_row rfl 40 (.tmp 2) (.tmp 22) rfl w.heap.size #[.int .i64 1, .int .i64 0, .int .i64 n, .int .i64 0] rfl rfl 40 _ hG (by kernel_rfl) rfl (by kernel_rfl) ?_))
      refine bodyPost_ret (results_ct rfl _ _ w.heap.size 40 #[.int .i64 1, .int .i64 0, .int .i64 n, .int .i64 0] (0, 0) _ rfl (setRow_heap _ _ _ _ _ _ hG) Try.underlying40 rfl (by kernel_rfl)) rfl ?_
      rw [HW'.out]
      exact ⟨rfl, below_setRow (below_then ((Below.refl _ w).alloc (Nat.le_refl _) _) (by simp) hb) (Nat.le_refl _) _⟩
    · have HW' : Aside0 (wordOf l = (0, 0, 0, 0, 13)) := ⟨by rw [HW.out, if_pos rfl, if_pos (by omega)]⟩
      have hn3 : 32 < n := by omega
      go_enter Try.func35, Try.ntmps35
      go_wp2_with (first | (go_at_call 23; refine (HRUN.out _).mono ?_; rintro e w' ⟨rfl, rfl⟩) | (go_at_call 10; refine (kind_any _ _).mono ?_; rw [← HK.out]; rintro e w' ⟨rfl, hb⟩; have hG := HKEEP.out _ _ hb) | (refine wpList_store_row rfl 40 (.tmp 2) (.tmp 20) rfl w.heap.size #[.int .i64 0, .int .i64 0, .int .i64 0, .int .i64 0] rfl rfl 40 _ hG (by kernel_rfl) rfl (by kernel_rfl) ?_))
      refine bodyPost_ret (results_ct rfl _ _ w.heap.size 40 #[.int .i64 0, .int .i64 0, .int .i64 0, .int .i64 0] (0, 0) _ rfl (setRow_heap _ _ _ _ _ _ hG) Try.underlying40 rfl (by kernel_rfl)) rfl ?_
      rw [HW'.out]
      exact ⟨rfl, below_setRow (below_then ((Below.refl _ w).alloc (Nat.le_refl _) _) (by simp) hb) (Nat.le_refl _) _⟩
  · have HW' : Aside0 (wordOf l = (k, 0, (n : Int), 0, 0)) := ⟨by rw [HW.out, if_neg hk0]⟩
    have hk1 : (k == 0) = false := beq_eq_false_iff_ne.2 hk0
    have hk2 : (k != 0) = true := bne_iff_ne.2 hk0
    go_enter Try.func35, Try.ntmps35
    go_wp2_with (first | (go_at_call 23; refine (HRUN.out _).mono ?_; rintro e w' ⟨rfl, rfl⟩) | (go_at_call 10; refine (kind_any _ _).mono ?_; rw [← HK.out]; rintro e w' ⟨rfl, hb⟩; have hG := HKEEP.out _ _ hb) | (refine wpList_store_row rfl 40 (.tmp 2) (.tmp 17) rfl w.heap.size #[.int .i64 k, .int .i64 0, .int .i64 n, .int .i64 0] rfl rfl 40 _ hG (by kernel_rfl) rfl (by kernel_rfl) ?_))
    refine bodyPost_ret (results_ct rfl _ _ w.heap.size 40 #[.int .i64 k, .int .i64 0, .int .i64 n, .int .i64 0] (0, 0) _ rfl (setRow_heap _ _ _ _ _ _ hG) Try.underlying40 rfl (by kernel_rfl)) rfl ?_
    rw [HW'.out]
    exact ⟨rfl, below_setRow (below_then ((Below.refl _ w).alloc (Nat.le_refl _) _) (by simp) hb) (Nat.le_refl _) _⟩
end Go.Proofs.Ytmingnhhmaclaaa.Given
