/- Draws change no block. -/
import Derived.Test.YtiapfhlipoomaaaDoorGivenB
namespace Go.Proofs.YtiapfhlipoomaaaDoor.Given
open Go.RowKit Go.Proofs.YtiapfhlipoomaaaDoorW.PrintWords Go.Proofs.YtiapfhlipoomaaaDoorW.PrintLast Go.Proofs.YtiapfhlipoomaaaDoorW.PrintMore Go.Proofs.YtiapfhlipoomaaaDoor.Print
set_option linter.unusedVariables false
set_option linter.unusedSimpArgs false
theorem heap_drewN (w : World) (n : Nat) : (w.drewN n).heap = w.heap := rfl
theorem hp_drewN (w : World) (x : Obj) (k n : Nat) (h : w.heap[k]? = some x) : (w.drewN n).heap[k]? = some x := h
theorem hp_setne (w : World) (x : Obj) (k b i : Nat) (v : Value) (hne : k ≠ b) (h : w.heap[k]? = some x) : (w.setCell ⟨b, i, none⟩ v).heap[k]? = some x := (Below.heap_setCell w ⟨b, i, none⟩ v k hne).trans h
theorem size_set (w : World) (p : Addr) (v : Value) : (w.setCell p v).heap.size = w.heap.size := by simp [World.setCell]
end Go.Proofs.YtiapfhlipoomaaaDoor.Given
