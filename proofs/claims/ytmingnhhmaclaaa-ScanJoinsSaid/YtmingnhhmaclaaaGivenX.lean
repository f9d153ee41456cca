/- The walk of the law ScanJoins. -/
import Derived.Test.YtmingnhhmaclaaaPlainC
namespace Go.Proofs.Ytmingnhhmaclaaa.Given
open Go.RowKit Go.Proofs.YtmingnhhmaclaaaW.PrintWords Go.Proofs.Ytmingnhhmaclaaa.Print

set_option maxHeartbeats 1000000 in
set_option maxRecDepth 100000 in
theorem joins_bad (A : Option Addr) (c : Nat) (l : List Int) (B : Option Addr) (d : Nat) (l2 : List Int) (k : Int) (w : World) (hr : Kd.C (Kd.int .u8) w A l.length l) (hc : l.length ≤ c) (hr2 : Kd.C (Kd.int .u8) w B l2.length l2) (hc2 : l2.length ≤ d)
    (h : (scanAll l).2.2 ≠ 0 ∨ (scanAll l2).2.2 ≠ 0) :
    Calls Try.prog 6 #[.slice A l.length c, .slice B l2.length d, .int .i64 k] w fun e w' => e = .returned (.bool true) ∧ Below w.heap.size w w' := by
  have hm := hr.2.1
  have hm2 := hr2.2.1
  obtain ⟨⟨r1, x1, y1⟩, hS⟩ : ∃ r, scanAll l = r := ⟨_, rfl⟩
  obtain ⟨⟨r2, x2, y2⟩, hS2⟩ : ∃ r, scanAll l2 = r := ⟨_, rfl⟩
  rw [hS, hS2] at h
  simp only at h
  have hsc := fun W (hb : Below w.heap.size w W) => scan_Scan.calls A c l r1 x1 y1 W (Kd.C_below hr hb) hc (by unfold scan_Scan.f; rw [hS])
  have HSC := Aside0.mk hsc
  have hsc2 := fun W (hb : Below w.heap.size w W) => scan_Scan.calls B d l2 r2 x2 y2 W (Kd.C_below hr2 hb) hc2 (by unfold scan_Scan.f; rw [hS2])
  have HSC2 := Aside0.mk hsc2
  clear hr hr2 hS hS2 hsc hsc2
  go_enter Try.func6, Try.ntmps6
  go_wp2_with (first | (go_at_call 8; refine (shown_any _).mono ?_; rintro e w1 ⟨rfl, hb1⟩; have HB1 := Aside0.mk hb1; clear hb1))
  refine (HSC.out _ HB1.out).mono ?_
  rintro e w2 ⟨v0, rfl, hR, hb2⟩
  have HB2 := Aside0.mk (below_then HB1.out HB1.out.size hb2)
  clear hR hb2
  go_wp2_with (fail)
  refine (HSC2.out _ (below_alloc HB2.out _)).mono ?_
  rintro e w3 ⟨v1, rfl, hR, hb3⟩
  have HB3 := Aside0.mk (below_then (below_alloc HB2.out _) (below_alloc HB2.out _).size hb3)
  have hG8 := heap_keep (heap_alloc_new w2 _) hb3
  have hz1 : ∀ o : Obj, (w3.alloc o).cell? ⟨w2.heap.size, 1, none⟩ = some (.int .i64 y1) := fun o => pw_cell_below (below_alloc (Below.refl _ w3) o) ((cell_of_row _ _ 1 _ _ _ hG8).trans rfl)
  clear hR hb3 hG8
  by_cases h1 : y1 = 0
  · have h1' : (y1 == 0) = true := beq_iff_eq.2 h1
    have h1'' : (y1 != 0) = false := by rw [h1]; rfl
    have h2 : y2 ≠ 0 := by rcases h with h | h; exact absurd h1 h; exact h
    have h2' : (y2 == 0) = false := beq_eq_false_iff_ne.2 h2
    have h2'' : (y2 != 0) = true := bne_iff_ne.2 h2
    go_wp2_with (fail)
    go_ret
    exact ⟨rfl, below_alloc HB3.out _⟩
  · have h1' : (y1 == 0) = false := beq_eq_false_iff_ne.2 h1
    have h1'' : (y1 != 0) = true := bne_iff_ne.2 h1
    go_wp2_with (fail)
    go_ret
    exact ⟨rfl, below_alloc HB3.out _⟩
end Go.Proofs.Ytmingnhhmaclaaa.Given
