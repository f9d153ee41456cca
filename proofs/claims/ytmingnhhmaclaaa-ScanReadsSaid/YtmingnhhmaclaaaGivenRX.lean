/- The reference's sign: what it reads. -/
import Derived.Test.YtmingnhhmaclaaaGivenRW
namespace Go.Proofs.Ytmingnhhmaclaaa.Given
open Go.RowKit Go.Proofs.YtmingnhhmaclaaaW.PrintWords Go.Proofs.Ytmingnhhmaclaaa.Print
set_option linter.unusedVariables false
set_option linter.unusedSimpArgs false

/-- What the reference's sign answers at a place, from so many bytes down. -/
def signR (l : List Int) (b : Nat) : Nat → Int × Int × Int × Int × Int
  | 0 => (0, 0, 0, 0, 11)
  | n + 1 => if b + (n + 1) ≤ l.length then (if 40 ≤ kindOf (strOfNums ((l.drop b).take (n + 1))) then (kindOf (strOfNums ((l.drop b).take (n + 1))), (b : Int), ((n + 1 : Nat) : Int), 0, 0) else signR l b n) else signR l b n
set_option maxHeartbeats 2000000 in
theorem rsign_any (A : Option Addr) (c : Nat) (l : List Int) (b : Nat) (w : World) (hr : Kd.C (Kd.int .u8) w A l.length l) (hc : l.length ≤ c) (hb : b ≤ l.length) (hl : l.length ≤ 4294967296) :
    Calls Try.prog 31 #[.slice A l.length c, .int .i64 b] w fun e w' => e = .returned (.tuple #[.agg #[.int .i64 (signR l b 3).1, .int .i64 (signR l b 3).2.1, .int .i64 (signR l b 3).2.2.1, .int .i64 (signR l b 3).2.2.2.1], .int .i64 (signR l b 3).2.2.2.2]) ∧ Below w.heap.size w w' := by
  have hu40 := Try.underlying40
  have HR := Aside0.mk hr
  have HC := Aside0.mk hc
  clear hr hc
  have BK0 := Aside0.mk (heap_alloc_new w (.cells #[.int .i64 0, .int .i64 0, .int .i64 0, .int .i64 0] 40))
  have HB0 : Aside0 (Below w.heap.size w (w.alloc (.cells #[.int .i64 0, .int .i64 0, .int .i64 0, .int .i64 0] 40))) := ⟨(Below.refl _ w).alloc (Nat.le_refl _) _⟩
  obtain ⟨r, hr0⟩ : ∃ r, r = signR l b 3 := ⟨_, rfl⟩
  rw [← hr0]
  go_enter Try.func31, Try.ntmps31
  go_upto_region 1 with (fail)
  obtain ⟨g4, hg4⟩ : ∃ g, g = w.heap.size := ⟨_, rfl⟩
  rw [← hg4] at BK0
  try rw [← hg4]
  generalize w.alloc (.cells #[.int .i64 0, .int .i64 0, .int .i64 0, .int .i64 0] 40) = w1 at BK0 HB0 ⊢
  have GE4 : Aside0 (w.heap.size ≤ g4) := ⟨by rw [hg4]; exact Nat.le_refl _⟩
  clear hg4
  have HRR := Aside0.mk hr0
  clear hr0
  go_wp2_with (fail)
  go_loopw [6] (fun v6 wr => ∃ m : Nat, v6 = .int .i64 m ∧ m ≤ 3 ∧ Aside0 (r = signR l b m) ∧ Aside0 (wr.heap[g4]? = some (.cells #[.int .i64 0, .int .i64 0, .int .i64 0, .int .i64 0] 40 (0, 0))) ∧ Aside0 (Below w.heap.size w wr)) (fun v6 _ => (intOf v6).toNat)
  case atStart => exact ⟨3, rfl, by omega, HRR, BK0, HB0⟩
  case round =>
    clear HRR BK0 HB0
    obtain ⟨m, rfl, hm, HRR, BK0, HB0⟩ := hrel
    obtain ⟨wo, rfl⟩ : ∃ wo : World, wo = wr := ⟨_, rfl⟩
    by_cases hm0 : 0 < m
    · obtain ⟨n, rfl⟩ : ∃ n, m = n + 1 := ⟨m - 1, by omega⟩
      by_cases hfit : b + (n + 1) ≤ l.length
      · obtain ⟨i0, hi0, _, hsz0, _⟩ := info_parts info5
        obtain ⟨A', hcut, hA, hC⟩ := print_mid_of (P := Try.prog) (Value.int .u8) 0 26 5 .i64 .i64 Try.underlying26 hi0 hsz0 A c l (b : Int) ((b : Int) + ((n : Int) + 1)) (by omega) (by omega) (by omega) HC.out
        have hxs : (l.take ((b : Int) + ((n : Int) + 1)).toNat).drop (b : Int).toNat = (l.drop b).take (n + 1) := by
          rw [show ((b : Int) + ((n : Int) + 1)).toNat = b + (n + 1) by omega, Int.toNat_natCast, List.drop_take, Nat.add_sub_cancel_left]
        have hxn : ((l.drop b).take (n + 1)).length = n + 1 := by rw [List.length_take, List.length_drop]; omega
        rw [hxs] at hcut hA hC
        have hR := Kd.C_of_reads (h1 := fun _ => rfl) (hA _ (Kd.reads_of_C HR.out))
        rw [hxn] at hcut hR hC
        have hcv := Kd.C_string (P := Try.prog) (c := c - b) Try.underlying26 Try.underlying5 Try.underlying9 (Kd.C_below hR HB0.out)
        obtain ⟨k, hk⟩ : ∃ k, k = kindOf (strOfNums ((l.drop b).take (n + 1))) := ⟨_, rfl⟩
        have HK := Aside0.mk hk
        by_cases h40 : 40 ≤ k
        · have HQ : Aside0 (r = (k, (b : Int), ((n + 1 : Nat) : Int), 0, 0)) := ⟨by rw [HRR.out, signR, if_pos hfit, ← hk, if_pos h40]⟩
          have hd : decide (k ≥ 40) = true := decide_eq_true h40
          clear hk hxs hxn hA hC hR hi0 hsz0 HRR
          go_wp2_with (first
            | (go_at_call 12; refine (rkind_any _ _).mono ?_; rw [← HK.out]; rintro e w2 ⟨rfl, hb0⟩; have BK1 := Aside0.mk (heap_keep BK0.out hb0); have HB1 := Aside0.mk (below_then HB0.out HB0.out.size hb0); clear hb0)
            | (refine wpList_store_row rfl 40 (.tmp 4) (.tmp 31) rfl g4 #[.int .i64 k, .int .i64 b, .int .i64 ((n : Int) + 1), .int .i64 0] rfl rfl 40 _ BK1.out (by kernel_rfl) rfl (by kernel_rfl) ?_; have n0_ : Aside0 ((w2.setRow g4 #[.int .i64 k, .int .i64 b, .int .i64 ((n : Int) + 1), .int .i64 0]).heap[g4]? = some (.cells #[.int .i64 k, .int .i64 b, .int .i64 ((n : Int) + 1), .int .i64 0] 40 (0, 0))) := ⟨setRow_heap _ _ _ _ _ _ BK1.out⟩; have n1_ := Aside0.mk (below_setRow HB1.out GE4.out #[.int .i64 k, .int .i64 b, .int .i64 ((n : Int) + 1), .int .i64 0])))
          refine bodyPost_ret (results_ct rfl _ _ g4 40 #[.int .i64 k, .int .i64 b, .int .i64 ((n : Int) + 1), .int .i64 0] (0, 0) _ rfl n0_.out Try.underlying40 rfl (by kernel_rfl)) rfl ?_
          exact ⟨by rw [HQ.out]; rfl, n1_.out⟩
        · have HQ : Aside0 (r = signR l b n) := ⟨by rw [HRR.out, signR, if_pos hfit, ← hk, if_neg h40]⟩
          have hd : decide (k ≥ 40) = false := decide_eq_false h40
          clear hk hxs hxn hA hC hR hi0 hsz0 HRR
          go_wp2_with (first
            | (go_at_call 12; refine (rkind_any _ _).mono ?_; rw [← HK.out]; rintro e w2 ⟨rfl, hb0⟩; have BK1 := Aside0.mk (heap_keep BK0.out hb0); have HB1 := Aside0.mk (below_then HB0.out HB0.out.size hb0); clear hb0))
          go_roundw
          case rel => exact ⟨n, by go_num, by omega, HQ, BK1, HB1⟩
          case measure => first | (simp [intOf]; done) | (simp [intOf]; omega)
      · have HQ : Aside0 (r = signR l b n) := ⟨by rw [HRR.out, signR, if_neg hfit]⟩
        clear HRR
        go_wp2_with (fail)
        go_roundw
        case rel => exact ⟨n, by go_num, by omega, HQ, BK0, HB0⟩
        case measure => first | (simp [intOf]; done) | (simp [intOf]; omega)
    · obtain rfl : m = 0 := by omega
      have HQ : Aside0 (r = (0, 0, 0, 0, 11)) := ⟨HRR.out⟩
      go_wp2_with (first
        | (refine wpList_store_row rfl 40 (.tmp 4) (.tmp 32) rfl g4 #[.int .i64 0, .int .i64 0, .int .i64 0, .int .i64 0] rfl rfl 40 _ BK0.out (by kernel_rfl) rfl (by kernel_rfl) ?_; have n0_ : Aside0 ((wo.setRow g4 #[.int .i64 0, .int .i64 0, .int .i64 0, .int .i64 0]).heap[g4]? = some (.cells #[.int .i64 0, .int .i64 0, .int .i64 0, .int .i64 0] 40 (0, 0))) := ⟨setRow_heap _ _ _ _ _ _ BK0.out⟩; have n1_ := Aside0.mk (below_setRow HB0.out GE4.out #[.int .i64 0, .int .i64 0, .int .i64 0, .int .i64 0])))
      refine bodyPost_ret (results_ct rfl _ _ g4 40 #[.int .i64 0, .int .i64 0, .int .i64 0, .int .i64 0] (0, 0) _ rfl n0_.out Try.underlying40 rfl (by kernel_rfl)) rfl ?_
      exact ⟨by rw [HQ.out]; rfl, n1_.out⟩
def squintref01_sign.f (l0 : List Int) (a1 : Int) : Option (Int × Int × Int × Int × Int) := if 0 ≤ a1 ∧ a1 ≤ l0.length ∧ l0.length ≤ 4294967296 then some (signR l0 a1.toNat 3) else none
theorem squintref01_sign.calls (A0 : Option Addr) (c0 : Nat) (l0 : List Int) (a1 : Int) (r1 : Int) (r2 : Int) (r3 : Int) (r4 : Int) (r5 : Int) (w : World) (hr0 : Kd.C (Kd.int .u8) w A0 l0.length l0) (hc0 : l0.length ≤ c0) (h : squintref01_sign.f l0 a1 = some (r1, r2, r3, r4, r5)) :
    Calls Try.prog 31 #[.slice A0 l0.length c0, .int .i64 a1] w fun e w' => e = .returned (.tuple #[.agg #[.int .i64 r1, .int .i64 r2, .int .i64 r3, .int .i64 r4], .int .i64 r5]) ∧ Below w.heap.size w w' := by
  unfold squintref01_sign.f at h
  split at h
  · rename_i hh
    injection h with h
    obtain ⟨b, rfl⟩ := Int.eq_ofNat_of_zero_le hh.1
    have := rsign_any A0 c0 l0 b w hr0 hc0 (by omega) (by omega)
    rw [Int.toNat_natCast] at h
    rw [h] at this
    exact this
  · cases h
end Go.Proofs.Ytmingnhhmaclaaa.Given
