/- What a round of a loop keeps. No condition. -/
import Derived.RangeFuncNested
import Derived.RangeFuncBox
import Derived.Test.YtokbonceeglciaaProg
namespace Go.Proofs.Ytokbonceeglciaa.Given
open Go.RowKit

/-! ### what is kept: every block of cells that is neither a list of pairs' variable nor its row -/
def KT (W W' : World) : Prop := W.heap.size ≤ W'.heap.size ∧ ∀ (k : Nat) (cs : Array Value) (t : TypeId) (fr : Nat × Nat), W.heap[k]? = some (.cells cs t fr) → t ≠ 33 → t ≠ 47 → W'.heap[k]? = some (.cells cs t fr)
theorem KT.refl (W : World) : KT W W := ⟨Nat.le_refl _, fun _ _ _ _ h _ _ => h⟩
theorem KT.trans {A B C : World} (h : KT A B) (k : KT B C) : KT A C := ⟨Nat.le_trans h.1 k.1, fun i cs t fr hi h1 h2 => k.2 i cs t fr (h.2 i cs t fr hi h1 h2) h1 h2⟩
theorem KT.grown {W W' : World} {row : Option Nat} (hg : W.grownBy W' row) (hr : ∀ r, row = some r → ∀ cs t fr, W.heap[r]? = some (.cells cs t fr) → t = 33 ∨ t = 47) : KT W W' :=
  ⟨hg.size, fun k cs t fr hk h1 h2 => (hg.block k (Array.getElem?_eq_some_iff.1 hk).1 (fun e => by rcases hr k e.symm cs t fr hk with h | h; exact h1 h; exact h2 h)).trans hk⟩
theorem KT.alloc (W : World) (o : Obj) : KT W (W.alloc o) := KT.grown (World.grownBy_alloc W o none) (fun _ h => by cases h)
theorem KT.putObj {W : World} {l : Nat} {o : Obj} (o' : Obj) (h : W.heap[l]? = some o) (ho : o.isCells = false) : KT W (W.putObj l o') :=
  KT.grown (grownBy_putObj' W l o') (fun r e cs t fr hr => by cases e; rw [h] at hr; cases hr; simp [Obj.isCells] at ho)
theorem KT.set {W : World} {B : Nat} {v : Value} (h : Boxed W B 33 v) (u : Value) : KT W (W.setCell ⟨B, 0, none⟩ u) :=
  KT.grown (grownBy_setCell' W B u) (fun r e cs t fr hr => by cases e; rw [show W.heap[B]? = _ from h] at hr; cases hr; exact .inl rfl)
theorem KT.boxed {W W' : World} (h : KT W W') {B : Nat} {t : TypeId} {v : Value} (hb : Boxed W B t v) (h1 : t ≠ 33) (h2 : t ≠ 47) : Boxed W' B t v := h.2 B _ _ _ hb h1 h2

end Go.Proofs.Ytokbonceeglciaa.Given
