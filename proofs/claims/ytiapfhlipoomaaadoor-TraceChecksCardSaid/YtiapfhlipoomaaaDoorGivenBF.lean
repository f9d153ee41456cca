/- trace.Check at any event. -/
import Derived.Test.YtiapfhlipoomaaaDoorGivenBA
import Derived.Test.YtiapfhlipoomaaaDoorGivenBD
namespace Go.Proofs.YtiapfhlipoomaaaDoor.Given
open Go.RowKit Go.Proofs.YtiapfhlipoomaaaDoorW.PrintWords Go.Proofs.YtiapfhlipoomaaaDoorW.PrintLast Go.Proofs.YtiapfhlipoomaaaDoorW.PrintMore Go.Proofs.YtiapfhlipoomaaaDoor.Print
set_option linter.unusedVariables false
set_option linter.unusedSimpArgs false
/-- What Check answers. -/
def checkOf (x : S24) : Int := if 1 ≤ x.f0 ∧ x.f0 ≤ 11 then checkK x.f0.toNat x else 180
def okX (x : S24) : Bool := decide (1 ≤ x.f0 ∧ x.f0 ≤ 11) && okK x.f0.toNat x
theorem checkOf_ok (x : S24) : checkOf x = if okX x = true then 0 else 180 := by
  unfold checkOf okX checkK
  by_cases h : 1 ≤ x.f0 ∧ x.f0 ≤ 11
  · rw [if_pos h, decide_eq_true h, Bool.true_and]
  · rw [if_neg h, decide_eq_false h, Bool.false_and, if_neg (by decide)]
theorem cls_of0 (k : Nat) : clsK k = 0 ∨ clsK k = 1 ∨ clsK k = 2 := by
  unfold clsK
  split <;> simp
set_option maxRecDepth 100000 in
set_option maxHeartbeats 2000000 in
theorem check_no (x : S24) (hk : x.f0 < 1 ∨ 11 < x.f0) (A : Option Addr) (cap : Nat) (w : World) :
    Calls Tryd.prog 10 #[evV x A cap] w fun e w' => e = .returned (.int .i64 180) ∧ Below w.heap.size w w' := by
  have hu24 := Tryd.underlying24
  have hu48 := Tryd.underlying48
  have T1 := Aside0.mk True.intro
  go_enter Tryd.func10, Tryd.ntmps10
  go_wp2_with (first
    | (go_at_call 23; clear T1; refine (form_no _ x.f0 _ hk ((blk_cell (hp_lt _ _ _ _ (heap_alloc_new w (.cells (evC x (.slice A x.f7.length cap)) 24))) 0).trans rfl)).mono ?_; rintro e w' ⟨rfl, rfl⟩)
    | (go_at_call 23; refine (form_no _ x.f0 _ hk ((blk_cell (t := 24) (cs := evC ⟨x.f0, 0, 0, 0, 0, 0, 0, []⟩ (.slice none 0 0)) (by repeat first | with_reducible exact hp_new _ _ _ (by simp only [size_alloc, heap_drew]; done) | with_reducible refine hp_lt _ _ _ _ ?_ | with_reducible refine hp_drew _ _ _ ?_) 0).trans rfl)).mono ?_; rintro e w' ⟨rfl, rfl⟩))
  go_ret
  exact ⟨rfl, by repeat first | with_reducible exact Below.refl _ _ | with_reducible refine below_alloc ?_ _ | with_reducible refine below_drew ?_⟩
theorem chk_any (x : S24) (A : Option Addr) (cap : Nat) (w : World) (hr : Kd.C (Kd.int .i64) w A x.f7.length x.f7) (hc : x.f7.length ≤ cap) :
    Calls Tryd.prog 10 #[evV x A cap] w fun e w' => e = .returned (.int .i64 (checkOf x)) ∧ Below w.heap.size w w' := by
  by_cases hk : 1 ≤ x.f0 ∧ x.f0 ≤ 11
  · obtain ⟨k, hkk⟩ : ∃ k : Nat, x.f0 = k := ⟨x.f0.toNat, by omega⟩
    have h1 : 1 ≤ k := by omega
    have h2 : k ≤ 11 := by omega
    have hco : checkOf x = checkK k x := by unfold checkOf; rw [if_pos hk, hkk, Int.toNat_natCast]
    rw [hco]
    rcases cls_of0 k with hcl | hcl | hcl
    · exact check_c0 k h1 h2 hcl x hkk A cap w hr hc
    · exact check_c1 k h1 h2 hcl x hkk A cap w hr hc
    · have hok := ok_c2 k hcl x
      by_cases hn : x.f1 < 0
      · rw [show checkK k x = 180 from if_neg (by rw [hok]; simp; omega)]
        exact check_c2_neg k h1 h2 hcl x hkk A cap w hr hc hn
      by_cases hm : x.f6 < 1
      · rw [show checkK k x = 180 from if_neg (by rw [hok]; simp; omega)]
        exact check_c2_lo k h1 h2 hcl x hkk A cap w hr hc hn hm
      by_cases hw : ((wsK k).length : Int) ≤ x.f6
      · rw [show checkK k x = 180 from if_neg (by rw [hok]; simp; omega)]
        exact check_c2_hi k h1 h2 hcl x hkk A cap w hr hc hn hm hw
      by_cases hs : sameP x ⟨x.f0, x.f1, 0, 0, 0, 0, x.f6, []⟩
      · rw [show checkK k x = 0 from if_pos (by rw [hok]; obtain ⟨_, _, s2, s3, s4, s5, _, s7⟩ := hs; simp only at s2 s3 s4 s5 s7; exact decide_eq_true ⟨by omega, by omega, by omega, s2, s3, s4, s5, s7⟩)]
        exact check_c2_yes k h1 h2 hcl x hkk A cap w hr hc hn hm hw hs
      · rw [show checkK k x = 180 from if_neg (by rw [hok]; intro h; obtain ⟨_, _, _, s2, s3, s4, s5, s7⟩ := of_decide_eq_true h; exact hs ⟨rfl, rfl, s2, s3, s4, s5, rfl, s7⟩)]
        exact check_c2_no k h1 h2 hcl x hkk A cap w hr hc hn hm hw hs
  · have hco : checkOf x = 180 := by unfold checkOf; rw [if_neg hk]
    rw [hco]
    exact check_no x (by omega) A cap w
end Go.Proofs.YtiapfhlipoomaaaDoor.Given
