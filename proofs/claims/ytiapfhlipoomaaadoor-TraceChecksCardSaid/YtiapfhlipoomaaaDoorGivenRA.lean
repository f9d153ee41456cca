/- squintref18.field: where a letter's number stands. -/
import Derived.Test.YtiapfhlipoomaaaDoorGivenE
namespace Go.Proofs.YtiapfhlipoomaaaDoor.Given
open Go.RowKit Go.Proofs.YtiapfhlipoomaaaDoorW.PrintWords Go.Proofs.YtiapfhlipoomaaaDoorW.PrintLast Go.Proofs.YtiapfhlipoomaaaDoorW.PrintMore Go.Proofs.YtiapfhlipoomaaaDoor.Print
set_option linter.unusedVariables false
set_option linter.unusedSimpArgs false

/-- The field of a letter: P, I, Q, J, C, and any other one's. -/
def letO : Int → Nat
  | 80 => 1
  | 73 => 2
  | 81 => 3
  | 74 => 4
  | 67 => 5
  | _ => 6
theorem letO_else (c : Int) (h1 : c ≠ 80) (h2 : c ≠ 73) (h3 : c ≠ 81) (h4 : c ≠ 74) (h5 : c ≠ 67) : letO c = 6 := by
  unfold letO
  split <;> simp_all
set_option maxRecDepth 100000 in
theorem field_any (g : Nat) (c : Int) (w : World) (x : S24) (lv : Value) (hb : w.heap[g]? = some (.cells (evC x lv) 24 (0, 0))) :
    Calls Tryd.prog 28 #[.pointer (some ⟨g, 0, none⟩), .int .u8 c] w fun e w' => e = .returned (.pointer (some ⟨g, letO c, none⟩)) ∧ w' = w := by
  have hu24 := Tryd.underlying24
  by_cases h1 : c = 80
  · subst h1
    go_enter Tryd.func28, Tryd.ntmps28
    go_wp2
    go_returns
    exact ⟨rfl, rfl⟩
  by_cases h2 : c = 73
  · subst h2
    go_enter Tryd.func28, Tryd.ntmps28
    go_wp2
    go_returns
    exact ⟨rfl, rfl⟩
  by_cases h3 : c = 81
  · subst h3
    go_enter Tryd.func28, Tryd.ntmps28
    go_wp2
    go_returns
    exact ⟨rfl, rfl⟩
  by_cases h4 : c = 74
  · subst h4
    go_enter Tryd.func28, Tryd.ntmps28
    go_wp2
    go_returns
    exact ⟨rfl, rfl⟩
  by_cases h5 : c = 67
  · subst h5
    go_enter Tryd.func28, Tryd.ntmps28
    go_wp2
    go_returns
    exact ⟨rfl, rfl⟩
  · have hl := letO_else c h1 h2 h3 h4 h5
    go_enter Tryd.func28, Tryd.ntmps28
    go_wp2
    go_returns
    exact ⟨by rw [hl]; rfl, rfl⟩
end Go.Proofs.YtiapfhlipoomaaaDoor.Given
