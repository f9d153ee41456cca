/- What stays of a world but one block; small facts on blocks. -/
import Derived.Test.YtmoebchaiokamaaDoorGivenE
import Derived.Laws.Cover3
namespace Go.Proofs.YtmoebchaiokamaaDoor.Given
open Go.RowKit Go.Proofs.YtmoebchaiokamaaDoorW.PrintWords Go.Proofs.YtmoebchaiokamaaDoorW.PrintLast Go.Proofs.YtmoebchaiokamaaDoorW.PrintMore Go.Proofs.YtmoebchaiokamaaDoor.Print
set_option linter.unusedVariables false
set_option linter.unusedSimpArgs false
theorem heap_push (w : World) (o : Obj) : (w.alloc o).heap = w.heap.push o := rfl
theorem size_alloc (w : World) (o : Obj) : (w.alloc o).heap.size = w.heap.size + 1 := by rw [heap_push, Array.size_push]
theorem cell_keep {w w1 : World} {g i t : Nat} {cs : Array Value} {v : Value} (hg : w.heap[g]? = some (.cells cs t (0, 0))) (hb : Below w.heap.size w w1) (hv : cs[i]? = some v) : w1.cell? ⟨g, i, none⟩ = some v := (blk_cell (blk_below hg hb) i).trans hv
theorem bel1 (w : World) (a : Obj) : Below w.heap.size w (w.alloc a) := below_alloc (Below.refl _ _) a
/-! ### all stays but one block -/
structure Fr (base g : Nat) (w w' : World) : Prop where
  os : w'.os = w.os
  tape : w'.tape = w.tape
  output : w'.output = w.output
  size : w.heap.size ≤ w'.heap.size
  block : ∀ k, k < base → k ≠ g → w'.heap[k]? = w.heap[k]?
theorem Fr.refl (base g : Nat) (w : World) : Fr base g w w := ⟨rfl, rfl, rfl, Nat.le_refl _, fun _ _ _ => rfl⟩
theorem Fr.below {base g N : Nat} {w w' : World} (h : Fr base g w w') (hb : N ≤ base) (hg : N ≤ g) : Below N w w' := ⟨h.os, h.tape, h.output, h.size, fun k hk => h.block k (by omega) (by omega)⟩
theorem Fr.of_below {base g : Nat} {w w' : World} (h : Below base w w') : Fr base g w w' := ⟨h.os, h.tape, h.output, h.size, fun k hk _ => h.block k hk⟩
theorem Fr.trans {base g : Nat} {w w1 w2 : World} (h : Fr base g w w1) (k : Fr base g w1 w2) : Fr base g w w2 := ⟨k.os.trans h.os, k.tape.trans h.tape, k.output.trans h.output, Nat.le_trans h.size k.size, fun j hj hg => (k.block j hj hg).trans (h.block j hj hg)⟩
theorem Fr.mono {base base' g : Nat} {w w1 : World} (h : Fr base g w w1) (hb : base' ≤ base) : Fr base' g w w1 := ⟨h.os, h.tape, h.output, h.size, fun j hj hg => h.block j (by omega) hg⟩
theorem fr_set {base g : Nat} {w w1 : World} (h : Fr base g w w1) (j : Nat) (v : Value) : Fr base g w (w1.setCell ⟨g, j, none⟩ v) :=
  ⟨h.os, h.tape, h.output, by simpa [World.setCell] using h.size, fun k hk hkg => (Below.heap_setCell w1 ⟨g, j, none⟩ v k hkg).trans (h.block k hk hkg)⟩
theorem Fr.cell {base g : Nat} {w w1 : World} (h : Fr base g w w1) {a : Addr} {v : Value} (hc : w.cell? a = some v) (hb : w.heap.size ≤ base) (hg : a.block ≠ g) : w1.cell? a = some v :=
  (World.cell?_of_block (w := w) (h.block a.block (Nat.lt_of_lt_of_le (World.block_lt_of_cell? w a hc) hb) hg)).trans hc
theorem Fr.blk {base g b : Nat} {w w1 : World} {o : Obj} (h : Fr base g w w1) (hc : w.heap[b]? = some o) (hb : w.heap.size ≤ base) (hg : b ≠ g) : w1.heap[b]? = some o := (h.block b (Nat.lt_of_lt_of_le (blk_lt hc) hb) hg).trans hc
theorem add_one_add (ad : Addr) (j : Nat) : (ad.add 1).add j = ad.add (1 + j) := by
  by_cases hj : j = 0
  · subst hj
    rfl
  · simp [Addr.add, hj, Nat.add_assoc]
theorem below_setG {base g : Nat} {w w1 : World} (h : Below base w w1) (hg : base ≤ g) (j : Nat) (v : Value) : Below base w (w1.setCell ⟨g, j, none⟩ v) := h.setCell (p := ⟨g, j, none⟩) hg v
/-! ### words in memory, outside a block -/
def WordsIn (w : World) (A : Option Addr) (ws : List ByteArray) : Prop := ∀ (j : Nat) t, ws[j]? = some t → ∃ ad, A = some ad ∧ w.cell? (ad.add j) = some (.string t)
theorem WordsIn.below {w w' : World} {A : Option Addr} {ws : List ByteArray} (h : WordsIn w A ws) (hb : Below w.heap.size w w') : WordsIn w' A ws := fun j t hj => by
  obtain ⟨ad, ha, hc⟩ := h j t hj
  exact ⟨ad, ha, pw_cell_below hb hc⟩
theorem WordsIn.fr {base g : Nat} {w w' : World} {A : Option Addr} {ws : List ByteArray} (h : WordsIn w A ws) (hf : Fr base g w w') (hb : w.heap.size ≤ base) (hA : ∀ ad, A = some ad → ad.block ≠ g) : WordsIn w' A ws := fun j t hj => by
  obtain ⟨ad, ha, hc⟩ := h j t hj
  exact ⟨ad, ha, hf.cell hc hb (by rw [add_block]; exact hA ad ha)⟩
theorem words_blk {w : World} {g : Nat} {ws : List ByteArray} (h : w.heap[g]? = some (.cells (ws.map Value.string).toArray 9 (0, 0))) : WordsIn w (some ⟨g, 0, none⟩) ws := fun j t hj => ⟨_, rfl, by
  have e2 : (⟨g, 0, none⟩ : Addr).add j = ⟨g, j, none⟩ := by simp [Addr.add]; exact Eq.symm
  rw [e2, blk_cell h j]
  simp [hj]⟩
/-- The slice behind the first word. -/
theorem words_tail {w : World} {A : Option Addr} {t : ByteArray} {r : List ByteArray} (h : WordsIn w A (t :: r)) (c : Nat) (hc : r.length + 1 ≤ c) (B : Nat) (hB : ∀ ad, A = some ad → B ≤ ad.block) :
    ∃ A1, (∀ W : World, (Instr.slice 52 (.slice A (r.length + 1) c) (some (.int .i64 1)) none none).run Tryd.prog W = .ok (.slice A1 r.length (c - 1)) W) ∧ WordsIn w A1 r ∧ ∀ ad, A1 = some ad → B ≤ ad.block := by
  obtain ⟨i0, hi0, _, hsz, _⟩ := info_parts info9
  have h0 := cut_from (P := Tryd.prog) 52 9 .i64 Tryd.underlying52 hi0 1 hsz A (r.length + 1) c 1 (by omega) (by omega)
  refine ⟨if c = 1 then A else A.map (·.add 1), fun W => by simpa using h0 W, fun j s hj => ?_, fun ad had => ?_⟩
  · have hj2 := (List.getElem?_eq_some_iff.1 hj).1
    rw [if_neg (by omega)]
    obtain ⟨ad, ha, hcell⟩ := h (1 + j) s (by rw [Nat.add_comm]; exact hj)
    subst ha
    exact ⟨_, rfl, by rw [add_one_add]; exact hcell⟩
  · split at had
    · exact hB ad had
    · obtain ⟨ad0, h1, rfl⟩ := Option.map_eq_some_iff.1 had
      rw [add_block]
      exact hB ad0 h1
end Go.Proofs.YtmoebchaiokamaaDoor.Given
