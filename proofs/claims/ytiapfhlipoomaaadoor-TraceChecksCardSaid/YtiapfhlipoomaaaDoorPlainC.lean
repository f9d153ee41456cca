/- What stays of a world but one block; an event's fields. -/
import Derived.Test.YtiapfhlipoomaaaDoorGivenBN
import Derived.Test.YtiapfhlipoomaaaDoorGivenE
namespace Go.Proofs.YtiapfhlipoomaaaDoor.Given
open Go.RowKit Go.Proofs.YtiapfhlipoomaaaDoorW.PrintWords Go.Proofs.YtiapfhlipoomaaaDoorW.PrintLast Go.Proofs.YtiapfhlipoomaaaDoorW.PrintMore Go.Proofs.YtiapfhlipoomaaaDoor.Print
set_option linter.unusedVariables false
set_option linter.unusedSimpArgs false

theorem ws_len2 (k : Nat) : (wsK k).length ≤ 7 := by
  unfold wsK
  split <;> decide
theorem fo_len (k : Nat) : (foK k).length ≤ 5 := by
  unfold foK
  split <;> decide
theorem fo_le (k o : Nat) (h : o ∈ foK k) : 1 ≤ o ∧ o ≤ 6 := by
  unfold foK at h
  split at h <;> simp at h <;> omega
theorem ws_len (k : Nat) : (wsK k).length ≤ 7 := by
  unfold wsK
  split <;> decide
theorem ev_get (x : S24) (v : Value) (o : Nat) (h1 : 1 ≤ o) (h2 : o ≤ 6) : (evC x v)[o]? = some (.int .i64 (getK x o)) := by
  match o, h1, h2 with
  | 1, _, _ => rfl
  | 2, _, _ => rfl
  | 3, _, _ => rfl
  | 4, _, _ => rfl
  | 5, _, _ => rfl
  | 6, _, _ => rfl
/-- An event with a field's number. -/
def setK (x : S24) (n : Int) : Nat → S24
  | 1 => ⟨x.f0, n, x.f2, x.f3, x.f4, x.f5, x.f6, x.f7⟩
  | 2 => ⟨x.f0, x.f1, n, x.f3, x.f4, x.f5, x.f6, x.f7⟩
  | 3 => ⟨x.f0, x.f1, x.f2, n, x.f4, x.f5, x.f6, x.f7⟩
  | 4 => ⟨x.f0, x.f1, x.f2, x.f3, n, x.f5, x.f6, x.f7⟩
  | 5 => ⟨x.f0, x.f1, x.f2, x.f3, x.f4, n, x.f6, x.f7⟩
  | 6 => ⟨x.f0, x.f1, x.f2, x.f3, x.f4, x.f5, n, x.f7⟩
  | _ => x
/-- Where a kind's numbers stand, with the one that may be any. -/
def atK (k : Nat) : List Nat := foK k ++ (if clsK k = 1 then [6] else [])
theorem setK_f7 (x : S24) (n : Int) (o : Nat) : (setK x n o).f7 = x.f7 := by
  unfold setK
  split <;> rfl
theorem setK_f0 (x : S24) (n : Int) (o : Nat) : (setK x n o).f0 = x.f0 := by
  unfold setK
  split <;> rfl
theorem setK_cells (x : S24) (v : Value) (n : Int) (o : Nat) (h1 : 1 ≤ o) (h2 : o ≤ 6) : (evC x v).setIfInBounds o (.int .i64 n) = evC (setK x n o) v := by
  match o, h1, h2 with
  | 1, _, _ => rfl
  | 2, _, _ => rfl
  | 3, _, _ => rfl
  | 4, _, _ => rfl
  | 5, _, _ => rfl
  | 6, _, _ => rfl
theorem add_block (ad : Addr) (j : Nat) : (ad.add j).block = ad.block := by
  unfold Addr.add
  split <;> rfl
/-! ### all stays but one block -/
structure Fr (base g : Nat) (w w' : World) : Prop where
  os : w'.os = w.os
  tape : w'.tape = w.tape
  output : w'.output = w.output
  size : w.heap.size ≤ w'.heap.size
  block : ∀ k, k < base → k ≠ g → w'.heap[k]? = w.heap[k]?
theorem Fr.below {base g N : Nat} {w w' : World} (h : Fr base g w w') (hb : N ≤ base) (hg : N ≤ g) : Below N w w' := ⟨h.os, h.tape, h.output, h.size, fun k hk => h.block k (by omega) (by omega)⟩
theorem Fr.of_below {base g : Nat} {w w' : World} (h : Below base w w') : Fr base g w w' := ⟨h.os, h.tape, h.output, h.size, fun k hk _ => h.block k hk⟩
theorem Fr.trans {base g : Nat} {w w1 w2 : World} (h : Fr base g w w1) (k : Fr base g w1 w2) : Fr base g w w2 := ⟨k.os.trans h.os, k.tape.trans h.tape, k.output.trans h.output, Nat.le_trans h.size k.size, fun j hj hg => (k.block j hj hg).trans (h.block j hj hg)⟩
theorem Fr.mono {base base' g : Nat} {w w1 : World} (h : Fr base g w w1) (hb : base' ≤ base) : Fr base' g w w1 := ⟨h.os, h.tape, h.output, h.size, fun j hj hg => h.block j (by omega) hg⟩
theorem fr_set {base g : Nat} {w w1 : World} (h : Fr base g w w1) (j : Nat) (v : Value) : Fr base g w (w1.setCell ⟨g, j, none⟩ v) :=
  ⟨h.os, h.tape, h.output, by simpa [World.setCell] using h.size, fun k hk hkg => (Below.heap_setCell w1 ⟨g, j, none⟩ v k hkg).trans (h.block k hk hkg)⟩
theorem Fr.cell {base g : Nat} {w w1 : World} (h : Fr base g w w1) {a : Addr} {v : Value} (hc : w.cell? a = some v) (hb : w.heap.size ≤ base) (hg : a.block ≠ g) : w1.cell? a = some v :=
  (World.cell?_of_block (w := w) (h.block a.block (Nat.lt_of_lt_of_le (World.block_lt_of_cell? w a hc) hb) hg)).trans hc
theorem Fr.blk {base g b : Nat} {w w1 : World} {o : Obj} (h : Fr base g w w1) (hc : w.heap[b]? = some o) (hb : w.heap.size ≤ base) (hg : b ≠ g) : w1.heap[b]? = some o := (h.block b (Nat.lt_of_lt_of_le (blk_lt hc) hb) hg).trans hc
end Go.Proofs.YtiapfhlipoomaaaDoor.Given
