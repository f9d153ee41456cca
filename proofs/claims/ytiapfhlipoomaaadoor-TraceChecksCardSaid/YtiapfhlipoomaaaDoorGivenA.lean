/- trace.formOf: what an event's kind has, at every kind; with the very world behind it. No condition but that the event lies in a block. -/
import Derived.Test.YtiapfhlipoomaaaDoorPrint1
import Derived.Handy
import Derived.BigRegion
import Derived.Laws.Rows
import Derived.Laws.Tables
namespace Go.Proofs.YtiapfhlipoomaaaDoor.Given
open Go.RowKit Go.Proofs.YtiapfhlipoomaaaDoorW.PrintWords Go.Proofs.YtiapfhlipoomaaaDoorW.PrintLast Go.Proofs.YtiapfhlipoomaaaDoorW.PrintMore Go.Proofs.YtiapfhlipoomaaaDoor.Print
set_option linter.unusedVariables false
set_option linter.unusedSimpArgs false

theorem at0_2 (w : World) (a b : Obj) : ((w.alloc a).alloc b).heap[w.heap.size]? = some a := blk_below (heap_alloc_new w a) (below_alloc (Below.refl _ _) b)
theorem at0_3 (w : World) (a b c : Obj) : (((w.alloc a).alloc b).alloc c).heap[w.heap.size]? = some a := blk_below (at0_2 w a b) (below_alloc (Below.refl _ _) c)
abbrev trapsA : Array Value := #[.string ⟨#[]⟩, .string ⟨#[100, 105, 118, 105, 100, 101]⟩, .string ⟨#[105, 110, 100, 101, 120]⟩, .string ⟨#[102, 105, 108, 108]⟩, .string ⟨#[110, 105, 108]⟩, .string ⟨#[119, 114, 111, 110, 103]⟩]
set_option maxRecDepth 100000 in
theorem traps_any (w : World) : Calls Tryd.prog 40 #[] w fun e w' => e = .returned (.slice (some ⟨w.heap.size, 0, none⟩) 6 6) ∧ w' = w.alloc (.cells trapsA 9) := by
  go_enter Tryd.func40, Tryd.ntmps40
  go_wp2
  go_ret
  exact ⟨rfl, rfl⟩
abbrev countersA : Array Value := #[.string ⟨#[]⟩, .string ⟨#[112, 114, 111, 99, 115]⟩, .string ⟨#[108, 105, 118, 101]⟩, .string ⟨#[99, 104, 97, 110, 115]⟩, .string ⟨#[116, 105, 99, 107, 115]⟩, .string ⟨#[99, 101, 108, 108, 115]⟩, .string ⟨#[100, 101, 112, 116, 104]⟩]
set_option maxRecDepth 100000 in
theorem counters_any (w : World) : Calls Tryd.prog 41 #[] w fun e w' => e = .returned (.slice (some ⟨w.heap.size, 0, none⟩) 7 7) ∧ w' = w.alloc (.cells countersA 9) := by
  go_enter Tryd.func41, Tryd.ntmps41
  go_wp2
  go_ret
  exact ⟨rfl, rfl⟩
set_option maxRecDepth 100000 in
set_option maxHeartbeats 4000000 in
theorem form_1 (g : Nat) (v0 v1 v2 v3 v4 v5 v6 v7 : Value) (w : World) (h0 : v0 = .int .i64 1) (hb : w.heap[g]? = some (.cells #[v0, v1, v2, v3, v4, v5, v6, v7] 24 (0, 0))) : Calls Tryd.prog 23 #[.pointer (some ⟨g, 0, none⟩)] w fun e w' => e = .returned (.tuple #[.agg #[.string ⟨#[98, 111, 114, 110]⟩, .slice (some ⟨w.heap.size + 1, 0, none⟩) 2 2, .pointer none, .slice none 0 0, .pointer none, .bool false], .bool true]) ∧ w' = ((w.alloc (.cells #[.string ⟨#[98, 111, 114, 110]⟩, .slice (some ⟨w.heap.size + 1, 0, none⟩) 2 2, .pointer none, .slice none 0 0, .pointer none, .bool false] 48)).alloc (.cells #[.pointer (some ⟨g, 1, none⟩), .pointer (some ⟨g, 3, none⟩)] 45)).drew := by
  have hu24 := Tryd.underlying24
  have hu48 := Tryd.underlying48
  subst h0
  have x0 : ∀ o, (w.alloc o).cell? ⟨g, 0, none⟩ = some (.int .i64 1) := fun o => pw_cell_below (below_alloc (Below.refl _ w) o) ((blk_cell hb 0).trans rfl)
  have x1 : ∀ o, (w.alloc o).cell? ⟨g, 1, none⟩ = some v1 := fun o => pw_cell_below (below_alloc (Below.refl _ w) o) ((blk_cell hb 1).trans rfl)
  have x3 : ∀ o, (w.alloc o).cell? ⟨g, 3, none⟩ = some v3 := fun o => pw_cell_below (below_alloc (Below.refl _ w) o) ((blk_cell hb 3).trans rfl)
  clear hb
  go_enter Tryd.func23, Tryd.ntmps23
  go_wp2
  go_region
  all_goals go_wp2
  refine bodyPost_ret (results_ct rfl _ _ w.heap.size 48 #[.string ⟨#[98, 111, 114, 110]⟩, .slice (some ⟨w.heap.size + 1, 0, none⟩) 2 2, .pointer none, .slice none 0 0, .pointer none, .bool false] (0, 0) _ rfl (at0_2 _ _ _) Tryd.underlying48 rfl (by kernel_rfl)) rfl ?_
  exact ⟨rfl, rfl⟩
set_option maxRecDepth 100000 in
set_option maxHeartbeats 4000000 in
theorem form_2 (g : Nat) (v0 v1 v2 v3 v4 v5 v6 v7 : Value) (w : World) (h0 : v0 = .int .i64 2) (hb : w.heap[g]? = some (.cells #[v0, v1, v2, v3, v4, v5, v6, v7] 24 (0, 0))) : Calls Tryd.prog 23 #[.pointer (some ⟨g, 0, none⟩)] w fun e w' => e = .returned (.tuple #[.agg #[.string ⟨#[109, 101, 101, 116]⟩, .slice (some ⟨w.heap.size + 1, 0, none⟩) 5 5, .pointer none, .slice none 0 0, .pointer none, .bool false], .bool true]) ∧ w' = ((w.alloc (.cells #[.string ⟨#[109, 101, 101, 116]⟩, .slice (some ⟨w.heap.size + 1, 0, none⟩) 5 5, .pointer none, .slice none 0 0, .pointer none, .bool false] 48)).alloc (.cells #[.pointer (some ⟨g, 1, none⟩), .pointer (some ⟨g, 2, none⟩), .pointer (some ⟨g, 3, none⟩), .pointer (some ⟨g, 4, none⟩), .pointer (some ⟨g, 5, none⟩)] 45)).drew := by
  have hu24 := Tryd.underlying24
  have hu48 := Tryd.underlying48
  subst h0
  have x0 : ∀ o, (w.alloc o).cell? ⟨g, 0, none⟩ = some (.int .i64 2) := fun o => pw_cell_below (below_alloc (Below.refl _ w) o) ((blk_cell hb 0).trans rfl)
  have x1 : ∀ o, (w.alloc o).cell? ⟨g, 1, none⟩ = some v1 := fun o => pw_cell_below (below_alloc (Below.refl _ w) o) ((blk_cell hb 1).trans rfl)
  have x2 : ∀ o, (w.alloc o).cell? ⟨g, 2, none⟩ = some v2 := fun o => pw_cell_below (below_alloc (Below.refl _ w) o) ((blk_cell hb 2).trans rfl)
  have x3 : ∀ o, (w.alloc o).cell? ⟨g, 3, none⟩ = some v3 := fun o => pw_cell_below (below_alloc (Below.refl _ w) o) ((blk_cell hb 3).trans rfl)
  have x4 : ∀ o, (w.alloc o).cell? ⟨g, 4, none⟩ = some v4 := fun o => pw_cell_below (below_alloc (Below.refl _ w) o) ((blk_cell hb 4).trans rfl)
  have x5 : ∀ o, (w.alloc o).cell? ⟨g, 5, none⟩ = some v5 := fun o => pw_cell_below (below_alloc (Below.refl _ w) o) ((blk_cell hb 5).trans rfl)
  clear hb
  go_enter Tryd.func23, Tryd.ntmps23
  go_wp2
  go_region
  all_goals go_wp2
  refine bodyPost_ret (results_ct rfl _ _ w.heap.size 48 #[.string ⟨#[109, 101, 101, 116]⟩, .slice (some ⟨w.heap.size + 1, 0, none⟩) 5 5, .pointer none, .slice none 0 0, .pointer none, .bool false] (0, 0) _ rfl (at0_2 _ _ _) Tryd.underlying48 rfl (by kernel_rfl)) rfl ?_
  exact ⟨rfl, rfl⟩
set_option maxRecDepth 100000 in
set_option maxHeartbeats 4000000 in
theorem form_3 (g : Nat) (v0 v1 v2 v3 v4 v5 v6 v7 : Value) (w : World) (h0 : v0 = .int .i64 3) (hb : w.heap[g]? = some (.cells #[v0, v1, v2, v3, v4, v5, v6, v7] 24 (0, 0))) : Calls Tryd.prog 23 #[.pointer (some ⟨g, 0, none⟩)] w fun e w' => e = .returned (.tuple #[.agg #[.string ⟨#[105, 110]⟩, .slice (some ⟨w.heap.size + 1, 0, none⟩) 2 2, .pointer (some ⟨g, 6, none⟩), .slice none 0 0, .pointer none, .bool false], .bool true]) ∧ w' = ((w.alloc (.cells #[.string ⟨#[105, 110]⟩, .slice (some ⟨w.heap.size + 1, 0, none⟩) 2 2, .pointer (some ⟨g, 6, none⟩), .slice none 0 0, .pointer none, .bool false] 48)).alloc (.cells #[.pointer (some ⟨g, 3, none⟩), .pointer (some ⟨g, 4, none⟩)] 45)).drew := by
  have hu24 := Tryd.underlying24
  have hu48 := Tryd.underlying48
  subst h0
  have x0 : ∀ o, (w.alloc o).cell? ⟨g, 0, none⟩ = some (.int .i64 3) := fun o => pw_cell_below (below_alloc (Below.refl _ w) o) ((blk_cell hb 0).trans rfl)
  have x3 : ∀ o, (w.alloc o).cell? ⟨g, 3, none⟩ = some v3 := fun o => pw_cell_below (below_alloc (Below.refl _ w) o) ((blk_cell hb 3).trans rfl)
  have x4 : ∀ o, (w.alloc o).cell? ⟨g, 4, none⟩ = some v4 := fun o => pw_cell_below (below_alloc (Below.refl _ w) o) ((blk_cell hb 4).trans rfl)
  have x6 : ∀ o, (w.alloc o).cell? ⟨g, 6, none⟩ = some v6 := fun o => pw_cell_below (below_alloc (Below.refl _ w) o) ((blk_cell hb 6).trans rfl)
  clear hb
  go_enter Tryd.func23, Tryd.ntmps23
  go_wp2
  go_region
  all_goals go_wp2
  refine bodyPost_ret (results_ct rfl _ _ w.heap.size 48 #[.string ⟨#[105, 110]⟩, .slice (some ⟨w.heap.size + 1, 0, none⟩) 2 2, .pointer (some ⟨g, 6, none⟩), .slice none 0 0, .pointer none, .bool false] (0, 0) _ rfl (at0_2 _ _ _) Tryd.underlying48 rfl (by kernel_rfl)) rfl ?_
  exact ⟨rfl, rfl⟩
set_option maxRecDepth 100000 in
set_option maxHeartbeats 4000000 in
theorem form_4 (g : Nat) (v0 v1 v2 v3 v4 v5 v6 v7 : Value) (w : World) (h0 : v0 = .int .i64 4) (hb : w.heap[g]? = some (.cells #[v0, v1, v2, v3, v4, v5, v6, v7] 24 (0, 0))) : Calls Tryd.prog 23 #[.pointer (some ⟨g, 0, none⟩)] w fun e w' => e = .returned (.tuple #[.agg #[.string ⟨#[111, 117, 116]⟩, .slice (some ⟨w.heap.size + 1, 0, none⟩) 2 2, .pointer (some ⟨g, 6, none⟩), .slice none 0 0, .pointer none, .bool false], .bool true]) ∧ w' = ((w.alloc (.cells #[.string ⟨#[111, 117, 116]⟩, .slice (some ⟨w.heap.size + 1, 0, none⟩) 2 2, .pointer (some ⟨g, 6, none⟩), .slice none 0 0, .pointer none, .bool false] 48)).alloc (.cells #[.pointer (some ⟨g, 1, none⟩), .pointer (some ⟨g, 2, none⟩)] 45)).drew := by
  have hu24 := Tryd.underlying24
  have hu48 := Tryd.underlying48
  subst h0
  have x0 : ∀ o, (w.alloc o).cell? ⟨g, 0, none⟩ = some (.int .i64 4) := fun o => pw_cell_below (below_alloc (Below.refl _ w) o) ((blk_cell hb 0).trans rfl)
  have x1 : ∀ o, (w.alloc o).cell? ⟨g, 1, none⟩ = some v1 := fun o => pw_cell_below (below_alloc (Below.refl _ w) o) ((blk_cell hb 1).trans rfl)
  have x2 : ∀ o, (w.alloc o).cell? ⟨g, 2, none⟩ = some v2 := fun o => pw_cell_below (below_alloc (Below.refl _ w) o) ((blk_cell hb 2).trans rfl)
  have x6 : ∀ o, (w.alloc o).cell? ⟨g, 6, none⟩ = some v6 := fun o => pw_cell_below (below_alloc (Below.refl _ w) o) ((blk_cell hb 6).trans rfl)
  clear hb
  go_enter Tryd.func23, Tryd.ntmps23
  go_wp2
  go_region
  all_goals go_wp2
  refine bodyPost_ret (results_ct rfl _ _ w.heap.size 48 #[.string ⟨#[111, 117, 116]⟩, .slice (some ⟨w.heap.size + 1, 0, none⟩) 2 2, .pointer (some ⟨g, 6, none⟩), .slice none 0 0, .pointer none, .bool false] (0, 0) _ rfl (at0_2 _ _ _) Tryd.underlying48 rfl (by kernel_rfl)) rfl ?_
  exact ⟨rfl, rfl⟩
set_option maxRecDepth 100000 in
set_option maxHeartbeats 4000000 in
theorem form_5 (g : Nat) (v0 v1 v2 v3 v4 v5 v6 v7 : Value) (w : World) (h0 : v0 = .int .i64 5) (hb : w.heap[g]? = some (.cells #[v0, v1, v2, v3, v4, v5, v6, v7] 24 (0, 0))) : Calls Tryd.prog 23 #[.pointer (some ⟨g, 0, none⟩)] w fun e w' => e = .returned (.tuple #[.agg #[.string ⟨#[101, 120, 105, 116]⟩, .slice (some ⟨w.heap.size + 1, 0, none⟩) 1 1, .pointer none, .slice none 0 0, .pointer none, .bool false], .bool true]) ∧ w' = ((w.alloc (.cells #[.string ⟨#[101, 120, 105, 116]⟩, .slice (some ⟨w.heap.size + 1, 0, none⟩) 1 1, .pointer none, .slice none 0 0, .pointer none, .bool false] 48)).alloc (.cells #[.pointer (some ⟨g, 1, none⟩)] 45)) := by
  have hu24 := Tryd.underlying24
  have hu48 := Tryd.underlying48
  subst h0
  have x0 : ∀ o, (w.alloc o).cell? ⟨g, 0, none⟩ = some (.int .i64 5) := fun o => pw_cell_below (below_alloc (Below.refl _ w) o) ((blk_cell hb 0).trans rfl)
  have x1 : ∀ o, (w.alloc o).cell? ⟨g, 1, none⟩ = some v1 := fun o => pw_cell_below (below_alloc (Below.refl _ w) o) ((blk_cell hb 1).trans rfl)
  clear hb
  go_enter Tryd.func23, Tryd.ntmps23
  go_wp2
  refine bodyPost_ret (results_ct rfl _ _ w.heap.size 48 #[.string ⟨#[101, 120, 105, 116]⟩, .slice (some ⟨w.heap.size + 1, 0, none⟩) 1 1, .pointer none, .slice none 0 0, .pointer none, .bool false] (0, 0) _ rfl (at0_2 _ _ _) Tryd.underlying48 rfl (by kernel_rfl)) rfl ?_
  exact ⟨rfl, rfl⟩
set_option maxRecDepth 100000 in
set_option maxHeartbeats 4000000 in
theorem form_6 (g : Nat) (v0 v1 v2 v3 v4 v5 v6 v7 : Value) (w : World) (h0 : v0 = .int .i64 6) (hb : w.heap[g]? = some (.cells #[v0, v1, v2, v3, v4, v5, v6, v7] 24 (0, 0))) : Calls Tryd.prog 23 #[.pointer (some ⟨g, 0, none⟩)] w fun e w' => (e = .returned (.tuple #[.agg #[.string ⟨#[116, 114, 97, 112]⟩, .slice (some ⟨w.heap.size + 1, 0, none⟩) 1 1, .pointer none, .slice (some ⟨w.heap.size + 2, 0, none⟩) 6 6, .pointer (some ⟨g, 6, none⟩), .bool false], .bool true]) ∧ w' = (((w.alloc (.cells #[.string ⟨#[116, 114, 97, 112]⟩, .slice (some ⟨w.heap.size + 1, 0, none⟩) 1 1, .pointer none, .slice (some ⟨w.heap.size + 2, 0, none⟩) 6 6, .pointer (some ⟨g, 6, none⟩), .bool false] 48)).alloc (.cells #[.pointer (some ⟨g, 1, none⟩)] 45)).alloc (.cells trapsA 9)).drew) ∨ (e = .returned (.tuple #[.agg #[.string ⟨#[116, 114, 97, 112]⟩, .slice (some ⟨w.heap.size + 2, 0, none⟩) 1 1, .pointer none, .slice (some ⟨w.heap.size + 1, 0, none⟩) 6 6, .pointer (some ⟨g, 6, none⟩), .bool false], .bool true]) ∧ w' = (((w.alloc (.cells #[.string ⟨#[116, 114, 97, 112]⟩, .slice (some ⟨w.heap.size + 2, 0, none⟩) 1 1, .pointer none, .slice (some ⟨w.heap.size + 1, 0, none⟩) 6 6, .pointer (some ⟨g, 6, none⟩), .bool false] 48)).alloc (.cells trapsA 9)).alloc (.cells #[.pointer (some ⟨g, 1, none⟩)] 45)).drew) := by
  have hu24 := Tryd.underlying24
  have hu48 := Tryd.underlying48
  subst h0
  have x0 : ∀ o, (w.alloc o).cell? ⟨g, 0, none⟩ = some (.int .i64 6) := fun o => pw_cell_below (below_alloc (Below.refl _ w) o) ((blk_cell hb 0).trans rfl)
  have x1 : ∀ o, (w.alloc o).cell? ⟨g, 1, none⟩ = some v1 := fun o => pw_cell_below (below_alloc (Below.refl _ w) o) ((blk_cell hb 1).trans rfl)
  have x6 : ∀ o, (w.alloc o).cell? ⟨g, 6, none⟩ = some v6 := fun o => pw_cell_below (below_alloc (Below.refl _ w) o) ((blk_cell hb 6).trans rfl)
  clear hb
  go_enter Tryd.func23, Tryd.ntmps23
  go_wp2
  go_region_with (go_at_call 40; refine (traps_any _).mono ?_; rintro e w' ⟨rfl, rfl⟩)
  all_goals go_wp2
  all_goals refine bodyPost_ret (results_ct rfl _ _ w.heap.size 48 _ (0, 0) _ rfl (at0_3 _ _ _ _) Tryd.underlying48 rfl (by kernel_rfl)) rfl ?_
  all_goals first | exact Or.inl ⟨rfl, rfl⟩ | exact Or.inr ⟨rfl, rfl⟩
set_option maxRecDepth 100000 in
set_option maxHeartbeats 4000000 in
theorem form_7 (g : Nat) (v0 v1 v2 v3 v4 v5 v6 v7 : Value) (w : World) (h0 : v0 = .int .i64 7) (hb : w.heap[g]? = some (.cells #[v0, v1, v2, v3, v4, v5, v6, v7] 24 (0, 0))) : Calls Tryd.prog 23 #[.pointer (some ⟨g, 0, none⟩)] w fun e w' => e = .returned (.tuple #[.agg #[.string ⟨#[115, 107, 105, 112]⟩, .slice none 0 0, .pointer none, .slice none 0 0, .pointer none, .bool false], .bool true]) ∧ w' = (w.alloc (.cells #[.string ⟨#[115, 107, 105, 112]⟩, .slice none 0 0, .pointer none, .slice none 0 0, .pointer none, .bool false] 48)) := by
  have hu24 := Tryd.underlying24
  have hu48 := Tryd.underlying48
  subst h0
  have x0 : ∀ o, (w.alloc o).cell? ⟨g, 0, none⟩ = some (.int .i64 7) := fun o => pw_cell_below (below_alloc (Below.refl _ w) o) ((blk_cell hb 0).trans rfl)
  clear hb
  go_enter Tryd.func23, Tryd.ntmps23
  go_wp2
  refine bodyPost_ret (results_ct rfl _ _ w.heap.size 48 #[.string ⟨#[115, 107, 105, 112]⟩, .slice none 0 0, .pointer none, .slice none 0 0, .pointer none, .bool false] (0, 0) _ rfl (heap_alloc_new _ _) Tryd.underlying48 rfl (by kernel_rfl)) rfl ?_
  exact ⟨rfl, rfl⟩
set_option maxRecDepth 100000 in
set_option maxHeartbeats 4000000 in
theorem form_8 (g : Nat) (v0 v1 v2 v3 v4 v5 v6 v7 : Value) (w : World) (h0 : v0 = .int .i64 8) (hb : w.heap[g]? = some (.cells #[v0, v1, v2, v3, v4, v5, v6, v7] 24 (0, 0))) : Calls Tryd.prog 23 #[.pointer (some ⟨g, 0, none⟩)] w fun e w' => e = .returned (.tuple #[.agg #[.string ⟨#[105, 100, 108, 101]⟩, .slice none 0 0, .pointer none, .slice none 0 0, .pointer none, .bool false], .bool true]) ∧ w' = (w.alloc (.cells #[.string ⟨#[105, 100, 108, 101]⟩, .slice none 0 0, .pointer none, .slice none 0 0, .pointer none, .bool false] 48)) := by
  have hu24 := Tryd.underlying24
  have hu48 := Tryd.underlying48
  subst h0
  have x0 : ∀ o, (w.alloc o).cell? ⟨g, 0, none⟩ = some (.int .i64 8) := fun o => pw_cell_below (below_alloc (Below.refl _ w) o) ((blk_cell hb 0).trans rfl)
  clear hb
  go_enter Tryd.func23, Tryd.ntmps23
  go_wp2
  refine bodyPost_ret (results_ct rfl _ _ w.heap.size 48 #[.string ⟨#[105, 100, 108, 101]⟩, .slice none 0 0, .pointer none, .slice none 0 0, .pointer none, .bool false] (0, 0) _ rfl (heap_alloc_new _ _) Tryd.underlying48 rfl (by kernel_rfl)) rfl ?_
  exact ⟨rfl, rfl⟩
set_option maxRecDepth 100000 in
set_option maxHeartbeats 4000000 in
theorem form_9 (g : Nat) (v0 v1 v2 v3 v4 v5 v6 v7 : Value) (w : World) (h0 : v0 = .int .i64 9) (hb : w.heap[g]? = some (.cells #[v0, v1, v2, v3, v4, v5, v6, v7] 24 (0, 0))) : Calls Tryd.prog 23 #[.pointer (some ⟨g, 0, none⟩)] w fun e w' => e = .returned (.tuple #[.agg #[.string ⟨#[112, 114, 111, 98, 101]⟩, .slice none 0 0, .pointer none, .slice none 0 0, .pointer none, .bool true], .bool true]) ∧ w' = (w.alloc (.cells #[.string ⟨#[112, 114, 111, 98, 101]⟩, .slice none 0 0, .pointer none, .slice none 0 0, .pointer none, .bool true] 48)) := by
  have hu24 := Tryd.underlying24
  have hu48 := Tryd.underlying48
  subst h0
  have x0 : ∀ o, (w.alloc o).cell? ⟨g, 0, none⟩ = some (.int .i64 9) := fun o => pw_cell_below (below_alloc (Below.refl _ w) o) ((blk_cell hb 0).trans rfl)
  clear hb
  go_enter Tryd.func23, Tryd.ntmps23
  go_wp2
  refine bodyPost_ret (results_ct rfl _ _ w.heap.size 48 #[.string ⟨#[112, 114, 111, 98, 101]⟩, .slice none 0 0, .pointer none, .slice none 0 0, .pointer none, .bool true] (0, 0) _ rfl (heap_alloc_new _ _) Tryd.underlying48 rfl (by kernel_rfl)) rfl ?_
  exact ⟨rfl, rfl⟩
set_option maxRecDepth 100000 in
set_option maxHeartbeats 4000000 in
theorem form_10 (g : Nat) (v0 v1 v2 v3 v4 v5 v6 v7 : Value) (w : World) (h0 : v0 = .int .i64 10) (hb : w.heap[g]? = some (.cells #[v0, v1, v2, v3, v4, v5, v6, v7] 24 (0, 0))) : Calls Tryd.prog 23 #[.pointer (some ⟨g, 0, none⟩)] w fun e w' => e = .returned (.tuple #[.agg #[.string ⟨#[114, 101, 97, 112]⟩, .slice (some ⟨w.heap.size + 1, 0, none⟩) 1 1, .pointer none, .slice none 0 0, .pointer none, .bool false], .bool true]) ∧ w' = ((w.alloc (.cells #[.string ⟨#[114, 101, 97, 112]⟩, .slice (some ⟨w.heap.size + 1, 0, none⟩) 1 1, .pointer none, .slice none 0 0, .pointer none, .bool false] 48)).alloc (.cells #[.pointer (some ⟨g, 1, none⟩)] 45)) := by
  have hu24 := Tryd.underlying24
  have hu48 := Tryd.underlying48
  subst h0
  have x0 : ∀ o, (w.alloc o).cell? ⟨g, 0, none⟩ = some (.int .i64 10) := fun o => pw_cell_below (below_alloc (Below.refl _ w) o) ((blk_cell hb 0).trans rfl)
  have x1 : ∀ o, (w.alloc o).cell? ⟨g, 1, none⟩ = some v1 := fun o => pw_cell_below (below_alloc (Below.refl _ w) o) ((blk_cell hb 1).trans rfl)
  clear hb
  go_enter Tryd.func23, Tryd.ntmps23
  go_wp2
  refine bodyPost_ret (results_ct rfl _ _ w.heap.size 48 #[.string ⟨#[114, 101, 97, 112]⟩, .slice (some ⟨w.heap.size + 1, 0, none⟩) 1 1, .pointer none, .slice none 0 0, .pointer none, .bool false] (0, 0) _ rfl (at0_2 _ _ _) Tryd.underlying48 rfl (by kernel_rfl)) rfl ?_
  exact ⟨rfl, rfl⟩
set_option maxRecDepth 100000 in
set_option maxHeartbeats 4000000 in
theorem form_11 (g : Nat) (v0 v1 v2 v3 v4 v5 v6 v7 : Value) (w : World) (h0 : v0 = .int .i64 11) (hb : w.heap[g]? = some (.cells #[v0, v1, v2, v3, v4, v5, v6, v7] 24 (0, 0))) : Calls Tryd.prog 23 #[.pointer (some ⟨g, 0, none⟩)] w fun e w' => (e = .returned (.tuple #[.agg #[.string ⟨#[115, 112, 101, 110, 116]⟩, .slice (some ⟨w.heap.size + 1, 0, none⟩) 1 1, .pointer none, .slice (some ⟨w.heap.size + 2, 0, none⟩) 7 7, .pointer (some ⟨g, 6, none⟩), .bool false], .bool true]) ∧ w' = (((w.alloc (.cells #[.string ⟨#[115, 112, 101, 110, 116]⟩, .slice (some ⟨w.heap.size + 1, 0, none⟩) 1 1, .pointer none, .slice (some ⟨w.heap.size + 2, 0, none⟩) 7 7, .pointer (some ⟨g, 6, none⟩), .bool false] 48)).alloc (.cells #[.pointer (some ⟨g, 1, none⟩)] 45)).alloc (.cells countersA 9)).drew) ∨ (e = .returned (.tuple #[.agg #[.string ⟨#[115, 112, 101, 110, 116]⟩, .slice (some ⟨w.heap.size + 2, 0, none⟩) 1 1, .pointer none, .slice (some ⟨w.heap.size + 1, 0, none⟩) 7 7, .pointer (some ⟨g, 6, none⟩), .bool false], .bool true]) ∧ w' = (((w.alloc (.cells #[.string ⟨#[115, 112, 101, 110, 116]⟩, .slice (some ⟨w.heap.size + 2, 0, none⟩) 1 1, .pointer none, .slice (some ⟨w.heap.size + 1, 0, none⟩) 7 7, .pointer (some ⟨g, 6, none⟩), .bool false] 48)).alloc (.cells countersA 9)).alloc (.cells #[.pointer (some ⟨g, 1, none⟩)] 45)).drew) := by
  have hu24 := Tryd.underlying24
  have hu48 := Tryd.underlying48
  subst h0
  have x0 : ∀ o, (w.alloc o).cell? ⟨g, 0, none⟩ = some (.int .i64 11) := fun o => pw_cell_below (below_alloc (Below.refl _ w) o) ((blk_cell hb 0).trans rfl)
  have x1 : ∀ o, (w.alloc o).cell? ⟨g, 1, none⟩ = some v1 := fun o => pw_cell_below (below_alloc (Below.refl _ w) o) ((blk_cell hb 1).trans rfl)
  have x6 : ∀ o, (w.alloc o).cell? ⟨g, 6, none⟩ = some v6 := fun o => pw_cell_below (below_alloc (Below.refl _ w) o) ((blk_cell hb 6).trans rfl)
  clear hb
  go_enter Tryd.func23, Tryd.ntmps23
  go_wp2
  go_region_with (go_at_call 41; refine (counters_any _).mono ?_; rintro e w' ⟨rfl, rfl⟩)
  all_goals go_wp2
  all_goals refine bodyPost_ret (results_ct rfl _ _ w.heap.size 48 _ (0, 0) _ rfl (at0_3 _ _ _ _) Tryd.underlying48 rfl (by kernel_rfl)) rfl ?_
  all_goals first | exact Or.inl ⟨rfl, rfl⟩ | exact Or.inr ⟨rfl, rfl⟩
set_option maxRecDepth 100000 in
set_option maxHeartbeats 4000000 in
theorem form_no (g : Nat) (k : Int) (w : World) (hk : k < 1 ∨ 11 < k) (hb : w.cell? ⟨g, 0, none⟩ = some (.int .i64 k)) : Calls Tryd.prog 23 #[.pointer (some ⟨g, 0, none⟩)] w fun e w' => e = .returned (.tuple #[.agg #[.string ⟨#[]⟩, .slice none 0 0, .pointer none, .slice none 0 0, .pointer none, .bool false], .bool false]) ∧ w' = w.alloc (.cells #[.string ⟨#[]⟩, .slice none 0 0, .pointer none, .slice none 0 0, .pointer none, .bool false] 48) := by
  have hu24 := Tryd.underlying24
  have hu48 := Tryd.underlying48
  have x0 : ∀ o, (w.alloc o).cell? ⟨g, 0, none⟩ = some (.int .i64 k) := fun o => pw_cell_below (below_alloc (Below.refl _ w) o) hb
  have k1 : (k == 1) = false := by simp; omega
  have k2 : (k == 2) = false := by simp; omega
  have k3 : (k == 3) = false := by simp; omega
  have k4 : (k == 4) = false := by simp; omega
  have k5 : (k == 5) = false := by simp; omega
  have k6 : (k == 6) = false := by simp; omega
  have k7 : (k == 7) = false := by simp; omega
  have k8 : (k == 8) = false := by simp; omega
  have k9 : (k == 9) = false := by simp; omega
  have k10 : (k == 10) = false := by simp; omega
  have k11 : (k == 11) = false := by simp; omega
  clear hb hk
  go_enter Tryd.func23, Tryd.ntmps23
  go_wp2
  refine bodyPost_ret (results_ct rfl _ _ w.heap.size 48 #[.string ⟨#[]⟩, .slice none 0 0, .pointer none, .slice none 0 0, .pointer none, .bool false] (0, 0) _ rfl (heap_alloc_new _ _) Tryd.underlying48 rfl (by kernel_rfl)) rfl ?_
  exact ⟨rfl, rfl⟩
end Go.Proofs.YtiapfhlipoomaaaDoor.Given
