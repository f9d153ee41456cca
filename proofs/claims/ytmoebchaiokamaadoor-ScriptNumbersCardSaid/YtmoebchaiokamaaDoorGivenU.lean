/- The walk of the law ScriptNumbers. -/
import Derived.Test.YtmoebchaiokamaaDoorGivenQ
namespace Go.Proofs.YtmoebchaiokamaaDoor.Given
open Go.RowKit Go.Proofs.YtmoebchaiokamaaDoorW.PrintWords Go.Proofs.YtmoebchaiokamaaDoorW.PrintLast Go.Proofs.YtmoebchaiokamaaDoorW.PrintMore Go.Proofs.YtmoebchaiokamaaDoor.Print
set_option linter.unusedVariables false
set_option linter.unusedSimpArgs false
theorem numbers_walk (w : World) (hL : LW w) : Calls Tryd.prog 5 #[] w fun e w' => e = .returned (.bool true) ∧ Below w.heap.size w w' := by
  have HL := Aside0.mk hL
  clear hL
  go_enter Tryd.func5, Tryd.ntmps5
  go_wp2_with (go_at_call 6; refine (shown_true w HL.out).mono ?_; rintro e w1 ⟨rfl, hb⟩; have HB := Aside0.mk hb; clear hb)
  go_ret
  exact ⟨rfl, HB.out⟩
end Go.Proofs.YtmoebchaiokamaaDoor.Given
