/- trace.Check: whether an event may be, of any values. No condition. -/
import Derived.Test.YtiapfhlipoomaaaDoorGivenA
import Derived.Laws.Cover3
namespace Go.Proofs.YtiapfhlipoomaaaDoor.Given
open Go.RowKit Go.Proofs.YtiapfhlipoomaaaDoorW.PrintWords Go.Proofs.YtiapfhlipoomaaaDoorW.PrintLast Go.Proofs.YtiapfhlipoomaaaDoorW.PrintMore Go.Proofs.YtiapfhlipoomaaaDoor.Print
set_option linter.unusedVariables false
set_option linter.unusedSimpArgs false
theorem heap_push (w : World) (o : Obj) : (w.alloc o).heap = w.heap.push o := rfl
theorem heap_drew (w : World) : w.drew.heap = w.heap := rfl
theorem size_alloc (w : World) (o : Obj) : (w.alloc o).heap.size = w.heap.size + 1 := by rw [heap_push, Array.size_push]
theorem hp_new (w : World) (o : Obj) (k : Nat) (hk : k = w.heap.size) : (w.alloc o).heap[k]? = some o := by subst hk; exact heap_alloc_new w o
theorem hp_lt (w : World) (o x : Obj) (k : Nat) (h : w.heap[k]? = some x) : (w.alloc o).heap[k]? = some x := blk_below h (below_alloc (Below.refl _ _) o)
theorem hp_drew (w : World) (x : Obj) (k : Nat) (h : w.heap[k]? = some x) : w.drew.heap[k]? = some x := h
theorem cell_keep {w w1 : World} {g i t : Nat} {cs : Array Value} {v : Value} (hg : w.heap[g]? = some (.cells cs t (0, 0))) (hb : Below w.heap.size w w1) (hv : cs[i]? = some v) : w1.cell? ⟨g, i, none⟩ = some v := (blk_cell (blk_below hg hb) i).trans hv
theorem ret_int {k : IntKind} {a b : Int} (h : a = b) : Ending.returned (.int k a) = .returned (.int k b) := by rw [h]

/-! ### slices.Equal, same, rises -/
theorem wrap_small (i : Int) (h0 : 0 ≤ i) (h1 : i < 9223372036854775807) : wrap64 (i + 1) = i + 1 := by simp only [wrap64]; omega
theorem equal_from (a b : List Int) (hl : a.length = b.length) (hs : a.length ≤ 9223372036854775807) : ∀ (m k : Nat), k + m = a.length → slices_Equal_int_int.l0 (m + 1) a b (a.length : Int) (k : Int) = some (decide (a.drop k = b.drop k))
  | 0, k, h => by
    unfold slices_Equal_int_int.l0
    rw [if_neg (by omega)]
    rw [List.drop_of_length_le (by omega), List.drop_of_length_le (by omega)]
    simp
  | m + 1, k, h => by
    unfold slices_Equal_int_int.l0
    have ha : k < a.length := by omega
    have hb : k < b.length := by omega
    rw [if_pos (by omega), if_pos (by omega), if_pos (by omega), if_pos (by omega), wrap_small _ (by omega) (by omega)]
    have ra : rd a (k : Int) = a[k] := by simp [rd, ha]
    have rb : rd b (k : Int) = b[k] := by simp [rd, hb]
    rw [ra, rb, List.drop_eq_getElem_cons ha, List.drop_eq_getElem_cons hb]
    by_cases he : a[k] = b[k]
    · rw [if_pos he]
      have := equal_from a b hl hs m (k + 1) (by omega)
      rw [show ((k : Int) + 1) = ((k + 1 : Nat) : Int) by omega, this]
      congr 1
      rw [decide_eq_decide, List.cons.injEq]
      exact ⟨fun h => ⟨he, h⟩, fun h => h.2⟩
    · rw [if_neg he]
      congr 1
      rw [eq_comm, decide_eq_false_iff_not, List.cons.injEq]
      exact fun h => he h.1
theorem equal_says (a b : List Int) (hs : a.length ≤ 9223372036854775807) : slices_Equal_int_int.f (a.length + 1) a b = some (decide (a = b)) := by
  unfold slices_Equal_int_int.f
  by_cases hl : a.length = b.length
  · rw [if_pos (by omega)]
    have := equal_from a b hl hs a.length 0 (by omega)
    simpa using this
  · rw [if_neg (by omega)]
    simp
    intro h
    exact hl (by rw [h])
def sameP (x y : S24) : Prop := x.f0 = y.f0 ∧ x.f1 = y.f1 ∧ x.f2 = y.f2 ∧ x.f3 = y.f3 ∧ x.f4 = y.f4 ∧ x.f5 = y.f5 ∧ x.f6 = y.f6 ∧ x.f7 = y.f7
abbrev evV (x : S24) (A : Option Addr) (c : Nat) : Value := .agg #[.int .i64 x.f0, .int .i64 x.f1, .int .i64 x.f2, .int .i64 x.f3, .int .i64 x.f4, .int .i64 x.f5, .int .i64 x.f6, .slice A x.f7.length c]
theorem same_says (x y : S24) (hs : x.f7.length ≤ 9223372036854775807) (r : Bool) (h : r = true ↔ sameP x y) : trace_same.f (x.f7.length + 1) x.f0 x.f1 x.f2 x.f3 x.f4 x.f5 x.f6 x.f7 y.f0 y.f1 y.f2 y.f3 y.f4 y.f5 y.f6 y.f7 = some r := by
  unfold trace_same.f
  rw [equal_says _ _ hs]
  simp only [Option.bind_some]
  unfold sameP at h
  cases r <;> (repeat' split) <;> simp_all
theorem same_yes (x y : S24) (A B : Option Addr) (c d : Nat) (w : World) (hx : Kd.C (Kd.int .i64) w A x.f7.length x.f7) (hc : x.f7.length ≤ c) (hy : Kd.C (Kd.int .i64) w B y.f7.length y.f7) (hd : y.f7.length ≤ d) (h : sameP x y) :
    Calls Tryd.prog 24 #[evV x A c, evV y B d] w fun e w' => e = .returned (.bool true) ∧ Below w.heap.size w w' :=
  trace_same.calls _ _ _ _ _ _ _ _ A c _ _ _ _ _ _ _ _ B d _ true w hx hc hy hd (same_says x y (by have := hx.2.1; exact this) true ⟨fun _ => h, fun _ => rfl⟩)
theorem same_no (x y : S24) (A B : Option Addr) (c d : Nat) (w : World) (hx : Kd.C (Kd.int .i64) w A x.f7.length x.f7) (hc : x.f7.length ≤ c) (hy : Kd.C (Kd.int .i64) w B y.f7.length y.f7) (hd : y.f7.length ≤ d) (h : ¬ sameP x y) :
    Calls Tryd.prog 24 #[evV x A c, evV y B d] w fun e w' => e = .returned (.bool false) ∧ Below w.heap.size w w' :=
  trace_same.calls _ _ _ _ _ _ _ _ A c _ _ _ _ _ _ _ _ B d _ false w hx hc hy hd (same_says x y (by have := hx.2.1; exact this) false ⟨fun h => (Bool.noConfusion h), fun hs => absurd hs h⟩)
/-- Whether numbers rise, from above one on. -/
def risesFrom : Int → List Int → Bool
  | _, [] => true
  | m, x :: r => decide (m < x) && risesFrom x r
def risesB (l : List Int) : Bool := risesFrom (-1) l
theorem rises_from (l : List Int) (hs : l.length ≤ 9223372036854775807) : ∀ (m k : Nat) (last : Int), k + m = l.length → trace_rises.l0 (m + 1) last l (l.length : Int) (k : Int) = some (risesFrom last (l.drop k))
  | 0, k, last, h => by
    unfold trace_rises.l0
    rw [if_neg (by omega), List.drop_of_length_le (by omega)]
    rfl
  | m + 1, k, last, h => by
    unfold trace_rises.l0
    have ha : k < l.length := by omega
    rw [if_pos (by omega), if_pos (by omega), if_pos (by omega), wrap_small _ (by omega) (by omega)]
    have ra : rd l (k : Int) = l[k] := by simp [rd, ha]
    rw [ra, List.drop_eq_getElem_cons ha]
    by_cases he : l[k] ≤ last
    · rw [if_pos he]
      simp [risesFrom]
      omega
    · rw [if_neg he]
      have := rises_from l hs m (k + 1) l[k] (by omega)
      rw [show ((k : Int) + 1) = ((k + 1 : Nat) : Int) by omega, this]
      simp [risesFrom]
      omega
theorem rises_any (l : List Int) (A : Option Addr) (c : Nat) (w : World) (hr : Kd.C (Kd.int .i64) w A l.length l) (hc : l.length ≤ c) (r : Bool) (h : risesB l = r) :
    Calls Tryd.prog 25 #[.slice A l.length c] w fun e w' => e = .returned (.bool r) ∧ Drawn0 w w' := by
  subst h
  refine trace_rises.calls (l.length + 1) A c l _ w hr hc ?_
  have := rises_from l (by have := hr.2.1; exact this) l.length 0 (-1) (by omega)
  simpa [trace_rises.f, risesB] using this

/-! ### Check, kind by kind -/
/-- Whether an event of a kind may be. -/
def okK : Nat → S24 → Bool
  | 1, x => decide (0 ≤ x.f1 ∧ 0 ≤ x.f3 ∧ x.f2 = 0 ∧ x.f4 = 0 ∧ x.f5 = 0 ∧ x.f6 = 0 ∧ x.f7 = [])
  | 2, x => decide (0 ≤ x.f1 ∧ 0 ≤ x.f2 ∧ 0 ≤ x.f3 ∧ 0 ≤ x.f4 ∧ 0 ≤ x.f5 ∧ x.f6 = 0 ∧ x.f7 = [])
  | 3, x => decide (0 ≤ x.f3 ∧ 0 ≤ x.f4 ∧ x.f1 = 0 ∧ x.f2 = 0 ∧ x.f5 = 0 ∧ x.f7 = [])
  | 4, x => decide (0 ≤ x.f1 ∧ 0 ≤ x.f2 ∧ x.f3 = 0 ∧ x.f4 = 0 ∧ x.f5 = 0 ∧ x.f7 = [])
  | 5, x => decide (0 ≤ x.f1 ∧ x.f2 = 0 ∧ x.f3 = 0 ∧ x.f4 = 0 ∧ x.f5 = 0 ∧ x.f6 = 0 ∧ x.f7 = [])
  | 6, x => decide (0 ≤ x.f1 ∧ 1 ≤ x.f6 ∧ x.f6 < 6 ∧ x.f2 = 0 ∧ x.f3 = 0 ∧ x.f4 = 0 ∧ x.f5 = 0 ∧ x.f7 = [])
  | 7, x => decide (x.f1 = 0 ∧ x.f2 = 0 ∧ x.f3 = 0 ∧ x.f4 = 0 ∧ x.f5 = 0 ∧ x.f6 = 0 ∧ x.f7 = [])
  | 8, x => decide (x.f1 = 0 ∧ x.f2 = 0 ∧ x.f3 = 0 ∧ x.f4 = 0 ∧ x.f5 = 0 ∧ x.f6 = 0 ∧ x.f7 = [])
  | 9, x => decide (x.f1 = 0 ∧ x.f2 = 0 ∧ x.f3 = 0 ∧ x.f4 = 0 ∧ x.f5 = 0 ∧ x.f6 = 0) && risesB x.f7
  | 10, x => decide (0 ≤ x.f1 ∧ x.f2 = 0 ∧ x.f3 = 0 ∧ x.f4 = 0 ∧ x.f5 = 0 ∧ x.f6 = 0 ∧ x.f7 = [])
  | 11, x => decide (0 ≤ x.f1 ∧ 1 ≤ x.f6 ∧ x.f6 < 7 ∧ x.f2 = 0 ∧ x.f3 = 0 ∧ x.f4 = 0 ∧ x.f5 = 0 ∧ x.f7 = [])
  | _, _ => false
/-- What Check answers of an event of a kind. -/
def checkK (k : Nat) (x : S24) : Int := if okK k x then 0 else 180
end Go.Proofs.YtiapfhlipoomaaaDoor.Given
