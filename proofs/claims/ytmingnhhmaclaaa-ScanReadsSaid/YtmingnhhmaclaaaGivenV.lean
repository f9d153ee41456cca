/- The walk of the law ScanCovers. -/
import Derived.Test.YtmingnhhmaclaaaGivenU
import Derived.Test.YtmingnhhmaclaaaGivenT
import Derived.Deep.QuietTactic
import Derived.BigQuiet
import Derived.Deep.RegionHeld3
namespace Go.Proofs.Ytmingnhhmaclaaa.Given
open Go.RowKit Go.Proofs.YtmingnhhmaclaaaW.PrintWords Go.Proofs.Ytmingnhhmaclaaa.Print

theorem kindFind_text (t : ByteArray) : ∀ n i : Nat, kindFind t n i ≠ 0 → (textOf (kindFind t n i : Nat)).toList = t.toList
  | 0, _, h => by simp [kindFind] at h
  | n + 1, i, h => by
    unfold kindFind at h ⊢
    split
    · assumption
    · rename_i a
      rw [if_neg a] at h
      exact kindFind_text t n (i + 1) h
theorem kindOf_text (t : ByteArray) (h : kindOf t ≠ 0) : (textOf (kindOf t)).toList = t.toList := by
  unfold kindOf at h ⊢
  split
  · rename_i a; rw [if_pos a] at h; exact absurd rfl h
  · rename_i a
    rw [if_neg a] at h
    exact kindFind_text t 67 0 (by simpa using h)
theorem mid_read {w : World} {A : Option Addr} {c : Nat} {l : List Int} (hr : Kd.C (Kd.int .u8) w A l.length l) (hc : l.length ≤ c) (a b : Nat) (hab : a ≤ b) (hb : b ≤ l.length) :
    ∃ A' : Option Addr, (∀ W : World, (Instr.slice 26 (.slice A l.length c) (some (.int .i64 a)) (some (.int .i64 b)) none).run Try.prog W = .ok (.slice A' (b - a) (c - a)) W) ∧ Kd.C (Kd.int .u8) w A' ((l.take b).drop a).length ((l.take b).drop a) ∧ ((l.take b).drop a).length = b - a := by
  obtain ⟨i0, hi, _, hs, _⟩ := info_parts info5
  have h1 := cut_mid (P := Try.prog) 26 5 .i64 .i64 Try.underlying26 hi 1 hs A l.length c (a : Int) (b : Int) (by omega) (by omega) (by omega) hc
  simp only [Int.toNat_natCast] at h1
  refine ⟨_, h1, Kd.C_mid hr hab hb hc, ?_⟩
  rw [List.length_drop, List.length_take, Nat.min_eq_left hb]

set_option maxHeartbeats 1000000 in
set_option maxRecDepth 100000 in
theorem covers_bad (A : Option Addr) (c : Nat) (l : List Int) (w : World) (hr : Kd.C (Kd.int .u8) w A l.length l) (hc : l.length ≤ c) (h : (scanAll l).2.2 ≠ 0) :
    Calls Try.prog 5 #[.slice A l.length c] w fun e w' => e = .returned (.bool true) ∧ Below w.heap.size w w' := by
  have hm := hr.2.1
  obtain ⟨h1, h2, h3⟩ := scanAll_bad l h
  obtain ⟨⟨r1, r2, r3⟩, hS⟩ : ∃ r, scanAll l = r := ⟨_, rfl⟩
  rw [hS] at h h1 h2 h3
  simp only at h h1 h2 h3
  subst h1
  have hsc := fun W (hb : Below w.heap.size w W) => scan_Scan.calls A c l [] r2 r3 W (Kd.C_below hr hb) hc (by unfold scan_Scan.f; rw [hS])
  have HSC := Aside0.mk hsc
  clear hr hS hsc
  have h0 : (r3 == 0) = false := beq_eq_false_iff_ne.2 h
  have h0' : (r3 != 0) = true := bne_iff_ne.2 h
  clear h
  go_enter Try.func5, Try.ntmps5
  go_wp2_with (first | (go_at_call 8; refine (shown_any _).mono ?_; rintro e w1 ⟨rfl, hb1⟩; have HB1 := Aside0.mk hb1; clear hb1) | (go_at_call 13; refine (HSC.out _ HB1.out).mono ?_; rintro e w2 ⟨v0, rfl, hR, hb2⟩; obtain ⟨A1, c1, rfl, _, _⟩ := Kd.R_reads hR; have HB2 := Aside0.mk (below_then HB1.out HB1.out.size hb2); clear hb2 hR))
  go_ret
  exact ⟨rfl, below_alloc HB2.out _⟩
end Go.Proofs.Ytmingnhhmaclaaa.Given
