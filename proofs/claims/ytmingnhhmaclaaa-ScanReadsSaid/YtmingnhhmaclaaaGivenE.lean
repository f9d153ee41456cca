import Derived.Test.YtmingnhhmaclaaaGivenD
namespace Go.Proofs.Ytmingnhhmaclaaa.Given
open Go.RowKit Go.Proofs.YtmingnhhmaclaaaW.PrintWords

def signFind (l : List Int) : Nat → Int × Int × Int × Int × Int
  | 0 => (0, 0, 0, 0, 11)
  | n + 1 => if kindOf (strOfNums (l.take (n + 1))) = 0 then signFind l n else (kindOf (strOfNums (l.take (n + 1))), 0, (n + 1 : Nat), 0, 0)
def signOf (l : List Int) : Int × Int × Int × Int × Int := signFind l (if l.length < 3 then l.length else 3)
def scan_sign.f (l0 : List Int) : Option (Int × Int × Int × Int × Int) := some (signOf l0)
def TokT (r : Int × Int × Int × Int × Int) (w : World) (e : Ending) (w' : World) : Prop := Tok r.1 r.2.1 r.2.2.1 r.2.2.2.1 r.2.2.2.2 w e w'
theorem signFind_no (l : List Int) (n : Nat) (k : Int) (h0 : 0 < n) (hk : k = kindOf (strOfNums (l.take n))) (h : k = 0) : signFind l n = signFind l (n - 1) := by
  obtain ⟨m, rfl⟩ : ∃ m, n = m + 1 := ⟨n - 1, by omega⟩
  rw [signFind, if_pos (by rw [← hk, h])]
  rfl
theorem signFind_yes (l : List Int) (n : Nat) (k : Int) (h0 : 0 < n) (hk : k = kindOf (strOfNums (l.take n))) (h : k ≠ 0) : signFind l n = (k, 0, ((n : Nat) : Int), 0, 0) := by
  obtain ⟨m, rfl⟩ : ∃ m, n = m + 1 := ⟨n - 1, by omega⟩
  rw [signFind, if_neg (by rw [← hk]; exact h), hk]

set_option maxHeartbeats 1000000 in
theorem sign_any (A : Option Addr) (c : Nat) (l : List Int) (w : World) (hr : Kd.C (Kd.int .u8) w A l.length l) (hc : l.length ≤ c) :
    Calls Try.prog 38 #[.slice A l.length c] w (TokT (signOf l) w) := by
  have hm := hr.2.1
  have HR := Aside0.mk hr
  clear hr
  have hG : ∀ o : Obj, (w.alloc o).heap[w.heap.size]? = some o := fun o => heap_alloc_new w o
  have HG := Aside0.mk hG
  clear hG
  have HB : ∀ o : Obj, Aside0 (Below w.heap.size w (w.alloc o)) := fun o => ⟨(Below.refl _ w).alloc (Nat.le_refl _) _⟩
  obtain ⟨n0, hN⟩ : ∃ n0, n0 = if l.length < 3 then l.length else 3 := ⟨_, rfl⟩
  have hS : signOf l = signFind l n0 := by rw [hN]; rfl
  have HS := Aside0.mk hS
  clear hS
  by_cases h3 : l.length < 3
  · rw [if_pos h3] at hN
    subst hN
    go_enter Try.func38, Try.ntmps38
    go_wp2
    go_loopw [4] (fun i wr => ∃ n : Nat, i = .int .i64 n ∧ n ≤ l.length ∧ Aside0 (signOf l = signFind l n) ∧ Aside0 (wr.heap[w.heap.size]? = some (.cells #[.int .i64 0, .int .i64 0, .int .i64 0, .int .i64 0] 40 (0, 0))) ∧ Aside0 (Below w.heap.size w wr)) (fun i _ => (intOf i).toNat)
    case atStart => exact ⟨l.length, rfl, by omega, HS, ⟨HG.out _⟩, HB _⟩
    case round =>
      obtain ⟨n, rfl, hn, HF, H0, HBW⟩ := hrel
      by_cases hlt : 0 < n
      · have hcv : (convert 26 9 (.slice A n c)).run Try.prog wr = .ok (.string (strOfNums (l.take n))) wr := conv_take (Kd.C_below HR.out HBW.out) n hn
        obtain ⟨k, hK⟩ : ∃ k, k = kindOf (strOfNums (l.take n)) := ⟨_, rfl⟩
        have HK := Aside0.mk hK
        clear hK
        by_cases hk0 : k = 0
        · have HE : Aside0 (signOf l = signFind l (n - 1)) := ⟨by rw [HF.out, signFind_no l n k hlt HK.out hk0]⟩
          have hk1 : (k == 0) = true := beq_iff_eq.2 hk0
          have hk2 : (k != 0) = false := by rw [hk0]; rfl
          clear hk0
          go_wp2_with (go_at_call 10; refine (kind_any _ _).mono ?_; rw [← HK.out]; rintro e w' ⟨rfl, hb⟩)
          go_roundw
          case rel => exact ⟨n - 1, by rw [show ((n - 1 : Nat) : Int) = (n : Int) - 1 by omega], by omega, HE, ⟨heap_keep H0.out hb⟩, ⟨below_then HBW.out HBW.out.size hb⟩⟩
          case measure => simp [intOf]; omega
        · have HE : Aside0 (signOf l = (k, 0, ((n : Nat) : Int), 0, 0)) := ⟨by rw [HF.out, signFind_yes l n k hlt HK.out hk0]⟩
          have hk1 : (k == 0) = false := beq_eq_false_iff_ne.2 hk0
          have hk2 : (k != 0) = true := bne_iff_ne.2 hk0
          go_wp2_with (first | (go_at_call 10; refine (kind_any _ _).mono ?_; rw [← HK.out]; rintro e w' ⟨rfl, hb⟩; have hG' := heap_keep H0.out hb) | (refine wpList_store_row rfl 40 (.tmp 2) (.tmp 22) rfl w.heap.size #[.int .i64 k, .int .i64 0, .int .i64 n, .int .i64 0] rfl rfl 40 _ hG' (by kernel_rfl) rfl (by kernel_rfl) ?_))
          refine bodyPost_ret (results_ct rfl _ _ w.heap.size 40 #[.int .i64 k, .int .i64 0, .int .i64 n, .int .i64 0] (0, 0) _ rfl (setRow_heap _ _ _ _ _ _ hG') Try.underlying40 rfl (by kernel_rfl)) rfl ?_
          rw [HE.out]
          exact ⟨rfl, below_setRow (below_then HBW.out HBW.out.size hb) (Nat.le_refl _) _⟩
      · obtain rfl : n = 0 := by omega
        go_wp2_with (refine wpList_store_row rfl 40 (.tmp 2) (.tmp 23) rfl w.heap.size #[.int .i64 0, .int .i64 0, .int .i64 0, .int .i64 0] rfl rfl 40 _ H0.out (by kernel_rfl) rfl (by kernel_rfl) ?_)
        refine bodyPost_ret (results_ct rfl _ _ w.heap.size 40 #[.int .i64 0, .int .i64 0, .int .i64 0, .int .i64 0] (0, 0) _ rfl (setRow_heap _ _ _ _ _ _ H0.out) Try.underlying40 rfl (by kernel_rfl)) rfl ?_
        rw [HF.out]
        exact ⟨rfl, below_setRow HBW.out (Nat.le_refl _) _⟩
  · rw [if_neg h3] at hN
    subst hN
    go_enter Try.func38, Try.ntmps38
    go_wp2
    go_loopw [4] (fun i wr => ∃ n : Nat, i = .int .i64 n ∧ n ≤ l.length ∧ Aside0 (signOf l = signFind l n) ∧ Aside0 (wr.heap[w.heap.size]? = some (.cells #[.int .i64 0, .int .i64 0, .int .i64 0, .int .i64 0] 40 (0, 0))) ∧ Aside0 (Below w.heap.size w wr)) (fun i _ => (intOf i).toNat)
    case atStart => exact ⟨3, rfl, by omega, HS, ⟨HG.out _⟩, HB _⟩
    case round =>
      obtain ⟨n, rfl, hn, HF, H0, HBW⟩ := hrel
      by_cases hlt : 0 < n
      · have hcv : (convert 26 9 (.slice A n c)).run Try.prog wr = .ok (.string (strOfNums (l.take n))) wr := conv_take (Kd.C_below HR.out HBW.out) n hn
        obtain ⟨k, hK⟩ : ∃ k, k = kindOf (strOfNums (l.take n)) := ⟨_, rfl⟩
        have HK := Aside0.mk hK
        clear hK
        by_cases hk0 : k = 0
        · have HE : Aside0 (signOf l = signFind l (n - 1)) := ⟨by rw [HF.out, signFind_no l n k hlt HK.out hk0]⟩
          have hk1 : (k == 0) = true := beq_iff_eq.2 hk0
          have hk2 : (k != 0) = false := by rw [hk0]; rfl
          clear hk0
          go_wp2_with (go_at_call 10; refine (kind_any _ _).mono ?_; rw [← HK.out]; rintro e w' ⟨rfl, hb⟩)
          go_roundw
          case rel => exact ⟨n - 1, by rw [show ((n - 1 : Nat) : Int) = (n : Int) - 1 by omega], by omega, HE, ⟨heap_keep H0.out hb⟩, ⟨below_then HBW.out HBW.out.size hb⟩⟩
          case measure => simp [intOf]; omega
        · have HE : Aside0 (signOf l = (k, 0, ((n : Nat) : Int), 0, 0)) := ⟨by rw [HF.out, signFind_yes l n k hlt HK.out hk0]⟩
          have hk1 : (k == 0) = false := beq_eq_false_iff_ne.2 hk0
          have hk2 : (k != 0) = true := bne_iff_ne.2 hk0
          go_wp2_with (first | (go_at_call 10; refine (kind_any _ _).mono ?_; rw [← HK.out]; rintro e w' ⟨rfl, hb⟩; have hG' := heap_keep H0.out hb) | (refine wpList_store_row rfl 40 (.tmp 2) (.tmp 22) rfl w.heap.size #[.int .i64 k, .int .i64 0, .int .i64 n, .int .i64 0] rfl rfl 40 _ hG' (by kernel_rfl) rfl (by kernel_rfl) ?_))
          refine bodyPost_ret (results_ct rfl _ _ w.heap.size 40 #[.int .i64 k, .int .i64 0, .int .i64 n, .int .i64 0] (0, 0) _ rfl (setRow_heap _ _ _ _ _ _ hG') Try.underlying40 rfl (by kernel_rfl)) rfl ?_
          rw [HE.out]
          exact ⟨rfl, below_setRow (below_then HBW.out HBW.out.size hb) (Nat.le_refl _) _⟩
      · obtain rfl : n = 0 := by omega
        go_wp2_with (refine wpList_store_row rfl 40 (.tmp 2) (.tmp 23) rfl w.heap.size #[.int .i64 0, .int .i64 0, .int .i64 0, .int .i64 0] rfl rfl 40 _ H0.out (by kernel_rfl) rfl (by kernel_rfl) ?_)
        refine bodyPost_ret (results_ct rfl _ _ w.heap.size 40 #[.int .i64 0, .int .i64 0, .int .i64 0, .int .i64 0] (0, 0) _ rfl (setRow_heap _ _ _ _ _ _ H0.out) Try.underlying40 rfl (by kernel_rfl)) rfl ?_
        rw [HF.out]
        exact ⟨rfl, below_setRow HBW.out (Nat.le_refl _) _⟩
end Go.Proofs.Ytmingnhhmaclaaa.Given
