/- squintref18.Check answers as trace.Check. -/
import Derived.Test.YtiapfhlipoomaaaDoorGivenRC
namespace Go.Proofs.YtiapfhlipoomaaaDoor.Given
open Go.RowKit Go.Proofs.YtiapfhlipoomaaaDoorW.PrintWords Go.Proofs.YtiapfhlipoomaaaDoorW.PrintLast Go.Proofs.YtiapfhlipoomaaaDoorW.PrintMore Go.Proofs.YtiapfhlipoomaaaDoor.Print
set_option linter.unusedVariables false
set_option linter.unusedSimpArgs false

theorem ref_check (k : Nat) (h1 : 1 ≤ k) (h2 : k ≤ 11) (x : S24) : refK k x = checkK k x := by
  have e0 : risesB [] = true := rfl
  obtain ⟨x0, x1, x2, x3, x4, x5, x6, x7⟩ := x
  obtain rfl | rfl | rfl | rfl | rfl | rfl | rfl | rfl | rfl | rfl | rfl : k = 1 ∨ k = 2 ∨ k = 3 ∨ k = 4 ∨ k = 5 ∨ k = 6 ∨ k = 7 ∨ k = 8 ∨ k = 9 ∨ k = 10 ∨ k = 11 := by omega
  all_goals
    unfold refK checkK
    have key : ∀ (p q r s : Prop) [Decidable p] [Decidable q] [Decidable r] [Decidable s], (s ↔ (¬ p ∧ ¬ q ∧ r)) → (if p then (180 : Int) else if q then 180 else if r then 0 else 180) = if s then 0 else 180 := by
      intro p q r s _ _ _ _ h
      by_cases hp : p <;> by_cases hq : q <;> by_cases hr : r <;> by_cases hs : s <;> simp_all
    refine key _ _ _ _ ?_
    simp only [shapeB, okL, okC, clrL, clrX, letO, setK, getK, isL, okK, List.all_cons, List.all_nil, List.any_cons, List.any_nil, List.foldl_cons, List.foldl_nil]
    by_cases h7 : x7 = []
    · subst h7
      simp [e0]
      try omega
    · simp [h7]
      try omega
theorem ref_any (x : S24) (A : Option Addr) (cap : Nat) (w : World) (hr : Kd.C (Kd.int .i64) w A x.f7.length x.f7) (hc : x.f7.length ≤ cap) :
    Calls Tryd.prog 11 #[evV x A cap] w fun e w' => e = .returned (.int .i64 (checkOf x)) ∧ Below w.heap.size w w' := by
  by_cases hk : 1 ≤ x.f0 ∧ x.f0 ≤ 11
  · obtain ⟨k, hkk⟩ : ∃ k : Nat, x.f0 = k := ⟨x.f0.toNat, by omega⟩
    have hco : checkOf x = refK k x := by unfold checkOf; rw [if_pos hk, hkk, Int.toNat_natCast, ref_check k (by omega) (by omega)]
    rw [hco]
    exact ref_kind x k (by omega) (by omega) A cap w hkk hr hc
  · have hco : checkOf x = 180 := by unfold checkOf; rw [if_neg hk]
    rw [hco]
    exact ref_none x A cap w (by omega)
end Go.Proofs.YtiapfhlipoomaaaDoor.Given
