/- The contracts of code.table, code.Name, code.Op: an operation's row, its name, and which operation a name is. No condition. -/
import Derived.Test.YtfkfgjmhcfagkaaDoorProg
import Derived.Test.YtfkfgjmhcfagkaaDoorWWords
import Derived.WalkKit
import Derived.KernelRfl
import Derived.LoopTactic
import Derived.Deep.LoopGhost
import Derived.Laws.Rows
import Derived.Laws.Tables
import Derived.Deep.WholeRow
namespace Go.Proofs.YtfkfgjmhcfagkaaDoor.Given
open Go.RowKit Go.Proofs.YtfkfgjmhcfagkaaDoorW.PrintWords
set_option linter.unusedVariables false
set_option linter.unusedSimpArgs false

def rowsS : List (ByteArray × Int) := [(⟨#[]⟩, 0), (⟨#[105, 110, 116]⟩, 1), (⟨#[98, 111, 111, 108]⟩, 1), (⟨#[122, 101, 114, 111]⟩, 1), (⟨#[108, 111, 97, 100]⟩, 1), (⟨#[115, 116, 111, 114, 101]⟩, 1), (⟨#[99, 108, 101, 97, 114]⟩, 1), (⟨#[99, 97, 112]⟩, 1), (⟨#[115, 101, 108, 102]⟩, 0), (⟨#[112, 111, 112]⟩, 0), (⟨#[116, 117, 112, 108, 101]⟩, 1), (⟨#[97, 114, 114, 97, 121]⟩, 1), (⟨#[102, 105, 108, 108]⟩, 0), (⟨#[108, 101, 110]⟩, 0), (⟨#[105, 110, 100, 101, 120]⟩, 0), (⟨#[102, 105, 101, 108, 100]⟩, 1), (⟨#[112, 97, 114, 116]⟩, 5), (⟨#[117, 110, 97, 114, 121]⟩, 1), (⟨#[98, 105, 110]⟩, 1), (⟨#[106, 117, 109, 112]⟩, 1), (⟨#[102, 97, 108, 115, 101]⟩, 1), (⟨#[98, 97, 99, 107]⟩, 1), (⟨#[112, 114, 111, 103]⟩, 3), (⟨#[99, 97, 108, 108]⟩, 3), (⟨#[98, 101, 103, 105, 110]⟩, 1), (⟨#[114, 101, 116]⟩, 0), (⟨#[109, 97, 107, 101]⟩, 0), (⟨#[119, 97, 105, 116]⟩, 4)]
def nameAt (k : Nat) : ByteArray := (rowsS.getD k (⟨#[]⟩, 0)).1
def hasAt (k : Nat) : Int := (rowsS.getD k (⟨#[]⟩, 0)).2
def tableA : Array Value := (rowsS.flatMap fun r => [Value.string r.1, Value.int .i64 r.2]).toArray
theorem tableA_size : tableA.size = 56 := rfl

theorem wpList_build_as {P : Program} {ops : Array Oper} {rest : List Oper} {o : Oper} {a : Act} {w : World} {Q : Exit → Act → World → Prop} (hg : o.guard = none) (t : TypeId) (parts : Array (Nat × Operand)) (ho : o.op = .build t parts) (cs : Array Value)
    (hf : P.built t (parts.map fun (i, x) => (i, a.eval x)).toList = some cs)
    (h : wpList P ops Q rest (a.put o.dst (.agg cs)) w) : wpList P ops Q (o :: rest) a w :=
  wpList_build hg t parts ho (by rw [hf]; rfl) (by rw [hf]; exact h)

set_option maxRecDepth 100000 in
set_option maxHeartbeats 1000000 in
theorem table_any (w : World) : Calls Tryd.prog 31 #[] w fun e w' => e = .returned (.agg tableA) ∧ w' = w.alloc (.cells tableA 60) := by
  have hst : ∀ c : Array Value, c.size = 56 → (storeCells ⟨w.heap.size, 0, none⟩ tableA.toList).run Tryd.prog (w.alloc (.cells c 60)) = .ok () (w.alloc (.cells tableA 60)) :=
    fun c hc => run_storeCells_new w 60 c tableA (by kernel_rfl) (by rw [hc]; rfl) (by decide +kernel)
  go_enter Tryd.func31, Tryd.ntmps31
  go_wp2_with (refine wpList_build_as rfl 60 _ rfl tableA (by kernel_rfl) ?_)
  refine bodyPost_ret (results_cell_row rfl _ _ w.heap.size 60 tableA (0,0) _ rfl (heap_alloc_new _ _) Tryd.underlying60 rfl (by kernel_rfl)) rfl ?_
  exact ⟨rfl, rfl⟩

set_option maxRecDepth 100000 in
theorem index_at (W : World) : ∀ n : Nat, n < 28 → (Instr.index 60 (.agg tableA) (.int .i64 (n : Int))).run Tryd.prog W = .ok (.agg #[.string (nameAt n), .int .i64 (hasAt n)]) W
  | 0, _ => by kernel_rfl
  | 1, _ => by kernel_rfl
  | 2, _ => by kernel_rfl
  | 3, _ => by kernel_rfl
  | 4, _ => by kernel_rfl
  | 5, _ => by kernel_rfl
  | 6, _ => by kernel_rfl
  | 7, _ => by kernel_rfl
  | 8, _ => by kernel_rfl
  | 9, _ => by kernel_rfl
  | 10, _ => by kernel_rfl
  | 11, _ => by kernel_rfl
  | 12, _ => by kernel_rfl
  | 13, _ => by kernel_rfl
  | 14, _ => by kernel_rfl
  | 15, _ => by kernel_rfl
  | 16, _ => by kernel_rfl
  | 17, _ => by kernel_rfl
  | 18, _ => by kernel_rfl
  | 19, _ => by kernel_rfl
  | 20, _ => by kernel_rfl
  | 21, _ => by kernel_rfl
  | 22, _ => by kernel_rfl
  | 23, _ => by kernel_rfl
  | 24, _ => by kernel_rfl
  | 25, _ => by kernel_rfl
  | 26, _ => by kernel_rfl
  | 27, _ => by kernel_rfl
  | n + 28, h => by omega
theorem field_name (x : ByteArray) (h : Int) (W : World) : (Instr.field 59 (.agg #[.string x, .int .i64 h]) 0).run Tryd.prog W = .ok (.string x) W := by kernel_rfl
theorem field_has (x : ByteArray) (h : Int) (W : World) : (Instr.field 59 (.agg #[.string x, .int .i64 h]) 1).run Tryd.prog W = .ok (.int .i64 h) W := by kernel_rfl
set_option maxRecDepth 100000 in
set_option maxHeartbeats 1000000 in
theorem name_in (k : Nat) (w : World) (h1 : 1 ≤ k) (h2 : k ≤ 27) : Calls Tryd.prog 10 #[.int .i64 k] w fun e w' => e = .returned (.string (nameAt k)) ∧ Below w.heap.size w w' := by
  have h1' : decide ((k : Int) < 1) = false := decide_eq_false (by omega)
  have h2' : decide (27 < (k : Int)) = false := decide_eq_false (by omega)
  have hix := fun W => index_at W k (by omega)
  have hfd := field_name (nameAt k) (hasAt k)
  go_enter Tryd.func10, Tryd.ntmps10
  go_wp2_with (go_at_call 31; refine (table_any _).mono ?_; rintro e w' ⟨rfl, rfl⟩)
  go_ret
  exact ⟨rfl, below_alloc (Below.refl _ _) _⟩
theorem ret_str {a b : ByteArray} (h : a = b) : Ending.returned (.string a) = .returned (.string b) := by rw [h]
theorem ret_int {k : IntKind} {a b : Int} (h : a = b) : Ending.returned (.int k a) = .returned (.int k b) := by rw [h]
set_option maxRecDepth 100000 in
theorem name_out (k : Int) (w : World) (h : k < 1 ∨ 27 < k) : Calls Tryd.prog 10 #[.int .i64 k] w fun e w' => e = .returned (.string ⟨#[]⟩) ∧ Below w.heap.size w w' := by
  by_cases h1 : k < 1
  · have h1' : decide (k < 1) = true := decide_eq_true h1
    go_enter Tryd.func10, Tryd.ntmps10
    go_wp2
    go_ret
    exact ⟨rfl, Below.refl _ _⟩
  · have h1' : decide (k < 1) = false := decide_eq_false h1
    have h2' : decide (27 < k) = true := decide_eq_true (by omega)
    go_enter Tryd.func10, Tryd.ntmps10
    go_wp2
    go_ret
    exact ⟨rfl, Below.refl _ _⟩
/-- What code.Name answers. -/
def nameOf (k : Int) : ByteArray := if 1 ≤ k ∧ k ≤ 27 then nameAt k.toNat else ⟨#[]⟩
theorem name_any (k : Int) (w : World) : Calls Tryd.prog 10 #[.int .i64 k] w fun e w' => e = .returned (.string (nameOf k)) ∧ Below w.heap.size w w' := by
  unfold nameOf
  split
  · obtain ⟨n, rfl⟩ : ∃ n : Nat, k = n := ⟨k.toNat, by omega⟩
    rw [Int.toNat_natCast]
    exact name_in n w (by omega) (by omega)
  · exact name_out k w (by omega)

/-! ### Op -/
def opFind (t : ByteArray) : Nat → Nat → Nat
  | 0, _ => 0
  | n + 1, k => if 0 < k ∧ (nameAt k).toList = t.toList then k else opFind t n (k + 1)
/-- What code.Op answers. -/
def opOf (t : ByteArray) : Int := (opFind t 28 0 : Nat)
theorem opFind_yes (t : ByteArray) (n k : Nat) (hn : 0 < n) (h : 0 < k ∧ (nameAt k).toList = t.toList) : opFind t n k = k := by
  obtain ⟨m, rfl⟩ : ∃ m, n = m + 1 := ⟨n - 1, by omega⟩
  rw [opFind, if_pos h]
theorem opFind_no (t : ByteArray) (n k : Nat) (hn : 0 < n) (h : ¬ (0 < k ∧ (nameAt k).toList = t.toList)) : opFind t n k = opFind t (n - 1) (k + 1) := by
  obtain ⟨m, rfl⟩ : ∃ m, n = m + 1 := ⟨n - 1, by omega⟩
  rw [opFind, if_neg h]
  rfl
set_option maxRecDepth 100000 in
set_option maxHeartbeats 1000000 in
theorem op_any (t : ByteArray) (w : World) : Calls Tryd.prog 11 #[.string t] w fun e w' => e = .returned (.int .i64 (opOf t)) ∧ Below w.heap.size w w' := by
  go_enter Tryd.func11, Tryd.ntmps11
  go_wp2_with (go_at_call 31; refine (table_any _).mono ?_; rintro e w' ⟨rfl, rfl⟩)
  go_loopw [6] (fun i wr => ∃ k : Nat, k ≤ 28 ∧ i = .int .i64 k ∧ Aside0 (opOf t = opFind t (28 - k) k) ∧ Aside0 (Below w.heap.size w wr)) (fun i _ => 28 - (intOf i).toNat)
  case atStart => exact ⟨0, by omega, rfl, ⟨rfl⟩, ⟨below_alloc (Below.refl _ _) _⟩⟩
  case round =>
    obtain ⟨k, hk, rfl, HF, HB⟩ := hrel
    by_cases hlt : k < 28
    · have hix := fun W => index_at W k hlt
      by_cases h0 : 0 < k
      · have h0' : decide (0 < (k : Int)) = true := decide_eq_true (by omega)
        by_cases he : (nameAt k).toList = t.toList
        · have HE := Aside0.mk he
          have he' : ((nameAt k).toList == t.toList) = true := beq_iff_eq.2 he
          clear he
          go_wp2
          go_ret
          exact ⟨ret_int (by rw [HF.out, opFind_yes t _ _ (by omega) ⟨h0, HE.out⟩]), below_alloc HB.out _⟩
        · have HE := Aside0.mk he
          have he' : ((nameAt k).toList == t.toList) = false := beq_eq_false_iff_ne.2 he
          clear he
          go_wp2
          go_roundw
          case rel => exact ⟨k + 1, by omega, by go_num, ⟨by rw [HF.out, opFind_no t _ _ (by omega) (fun h => HE.out h.2)]; congr 1⟩, ⟨below_alloc HB.out _⟩⟩
          case measure => simp [intOf]; omega
      · have h0' : decide (0 < (k : Int)) = false := decide_eq_false (by omega)
        go_wp2
        go_roundw
        case rel => exact ⟨k + 1, by omega, by go_num, ⟨by rw [HF.out, opFind_no t _ _ (by omega) (fun h => h0 h.1)]; congr 1⟩, ⟨below_alloc HB.out _⟩⟩
        case measure => simp [intOf]; omega
    · go_wp2
      go_ret
      obtain rfl : k = 28 := by omega
      exact ⟨ret_int (by rw [HF.out]; rfl), HB.out⟩

end Go.Proofs.YtfkfgjmhcfagkaaDoor.Given
