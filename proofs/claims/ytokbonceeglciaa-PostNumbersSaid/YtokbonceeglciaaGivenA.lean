/- The two ways to choose arms (senders, receivers), No condition. -/
import Derived.Test.YtokbonceeglciaaPrint0
import Derived.RangeFuncNested
import Derived.RangeFuncBound
import Derived.RangeFuncCalls
import Derived.RangeFuncLeaves
import Derived.RangeFuncBox
import Derived.Shelf.Abstract
import Derived.WalkKit
import Derived.OwnWalkIn
import Derived.TacticsInMore
import Derived.LoopNIn
import Derived.LoopIn
import Derived.Maps.OwnIn
namespace Go.Proofs.Ytokbonceeglciaa.Given
open Go.RowKit Go.Shelf Go.Proofs.YtokbonceeglciaaW.PrintWords Go.Proofs.Ytokbonceeglciaa.Print

/-! ### an arm, and a waiter, as they lie -/
structure RA where
  ch : Int
  sd : Bool
  a : Int
  b : Int
  A : Option Addr
  n : Nat
  c : Nat
def encA (r : RA) : Value := .agg #[.int .i64 r.ch, .bool r.sd, .int .i64 r.a, .int .i64 r.b, .slice r.A r.n r.c]
def sends (c0 : Int) (r : RA) : Bool := r.sd && (decide (0 < r.ch) && (c0 == 0 || r.ch == c0))
def recvs (c0 : Int) (r : RA) : Bool := !r.sd && (decide (0 < r.ch) && (c0 == 0 || r.ch == c0))

theorem ret_bool {a b : Bool} (h : a = b) : Ending.returned (.bool a) = .returned (.bool b) := by rw [h]
set_option maxHeartbeats 1000000 in
theorem sends_any (r : RA) (c0 : Int) (Bn : Nat) (w : World) (hB : w.cell? ⟨Bn, 0, none⟩ = some (.int .i64 c0)) :
    Calls Try.prog 31 #[encA r, .pointer (some ⟨Bn, 0, none⟩)] w fun e w' => e = .returned (.bool (sends c0 r)) ∧ w' = w.alloc (.cells #[.int .i64 r.ch, .bool r.sd, .int .i64 r.a, .int .i64 r.b, .slice r.A r.n r.c] 43) := by
  obtain ⟨ch, sd, a, b, A, n, c⟩ := r
  have hb : ∀ o : Obj, (w.alloc o).cell? ⟨Bn, 0, none⟩ = some (.int .i64 c0) := fun o => pw_cell_below (below_alloc (Below.refl _ w) o) hB
  unfold encA sends
  dsimp only
  clear hB
  cases sd
  · go_enter Try.func31, Try.ntmps31
    go_wp2
    go_ret
    exact ⟨rfl, rfl⟩
  · by_cases h1 : 0 < ch
    · have h1' : decide (0 < ch) = true := decide_eq_true h1
      by_cases h2 : c0 = 0
      · have h2' : (c0 == 0) = true := beq_iff_eq.2 h2
        rw [h1', h2']
        clear h2 h1
        go_enter Try.func31, Try.ntmps31
        go_wp2
        go_ret
        exact ⟨rfl, rfl⟩
      · have h2' : (c0 == 0) = false := beq_eq_false_iff_ne.2 h2
        rw [h1', h2']
        clear h2 h1
        go_enter Try.func31, Try.ntmps31
        go_wp2
        go_ret
        exact ⟨rfl, rfl⟩
    · have h1' : decide (0 < ch) = false := decide_eq_false h1
      rw [h1']
      clear h1
      go_enter Try.func31, Try.ntmps31
      go_wp2
      go_ret
      exact ⟨rfl, rfl⟩
set_option maxHeartbeats 1000000 in
theorem recvs_any (r : RA) (c0 : Int) (Bn : Nat) (w : World) (hB : w.cell? ⟨Bn, 0, none⟩ = some (.int .i64 c0)) :
    Calls Try.prog 33 #[encA r, .pointer (some ⟨Bn, 0, none⟩)] w fun e w' => e = .returned (.bool (recvs c0 r)) ∧ w' = w.alloc (.cells #[.int .i64 r.ch, .bool r.sd, .int .i64 r.a, .int .i64 r.b, .slice r.A r.n r.c] 43) := by
  obtain ⟨ch, sd, a, b, A, n, c⟩ := r
  have hb : ∀ o : Obj, (w.alloc o).cell? ⟨Bn, 0, none⟩ = some (.int .i64 c0) := fun o => pw_cell_below (below_alloc (Below.refl _ w) o) hB
  unfold encA recvs
  dsimp only
  clear hB
  cases sd
  rotate_left
  · go_enter Try.func33, Try.ntmps33
    go_wp2
    go_ret
    exact ⟨rfl, rfl⟩
  · by_cases h1 : 0 < ch
    · have h1' : decide (0 < ch) = true := decide_eq_true h1
      by_cases h2 : c0 = 0
      · have h2' : (c0 == 0) = true := beq_iff_eq.2 h2
        rw [h1', h2']
        clear h2 h1
        go_enter Try.func33, Try.ntmps33
        go_wp2
        go_ret
        exact ⟨rfl, rfl⟩
      · have h2' : (c0 == 0) = false := beq_eq_false_iff_ne.2 h2
        rw [h1', h2']
        clear h2 h1
        go_enter Try.func33, Try.ntmps33
        go_wp2
        go_ret
        exact ⟨rfl, rfl⟩
    · have h1' : decide (0 < ch) = false := decide_eq_false h1
      rw [h1']
      clear h1
      go_enter Try.func33, Try.ntmps33
      go_wp2
      go_ret
      exact ⟨rfl, rfl⟩

end Go.Proofs.Ytokbonceeglciaa.Given
