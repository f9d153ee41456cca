/- The contract of code.ins where an instruction has what it has not, or is none. -/
import Derived.Test.YtfkfgjmhcfagkaaDoorGivenC
namespace Go.Proofs.YtfkfgjmhcfagkaaDoor.Given
open Go.RowKit Go.Proofs.YtfkfgjmhcfagkaaDoorW.PrintWords Go.Proofs.YtfkfgjmhcfagkaaDoor.Print
set_option linter.unusedVariables false
set_option linter.unusedSimpArgs false

set_option maxRecDepth 100000 in
set_option maxHeartbeats 4000000 in
theorem insno_0a (k : Nat) (a b : Int) (A : Option Addr) (c : Nat) (n : Nat) (w : World) (h1 : 1 ≤ k) (h2 : k ≤ 27) (hn : (nameAt k).toList.isEmpty = false) (hh : hasAt k = 0) (hbad : a ≠ 0) :
    Calls Tryd.prog 39 #[.agg #[.int .i64 k, .int .i64 a, .int .i64 b, .slice A n c]] w fun e w' => e = .returned (.tuple #[.string ⟨#[]⟩, .bool false]) ∧ Below w.heap.size w w' := by
  have hix := fun W => index_at W k (by omega)
  rw [hh] at hix
  have hw : ∀ (o : Obj) (W : World), Below (w.alloc o).heap.size (w.alloc o) W → W.heap[w.heap.size]? = some o := fun o W hb => (hb.block w.heap.size (by simp)).trans (heap_alloc_new w o)
  clear hh
  have q1 : (a == 0) = false := by simpa using hbad
  have q2 : (a != 0) = true := by simpa using hbad
  go_enter Tryd.func39, Tryd.ntmps39
  go_wp2_with (go_at_call 10; refine (name_in k _ h1 h2).mono ?_; rintro e w1 ⟨rfl, hb1⟩; have HB1 := Aside0.mk ((below_alloc (Below.refl _ w) _).trans (hb1.mono (by simp))); have HI1 := Aside0.mk (hw _ _ hb1); clear hb1)
  have c10 := cell_of_row w1 w.heap.size 0 _ _ _ HI1.out
  replace c10 : w1.cell? ⟨w.heap.size, 0, none⟩ = some (.int .i64 k) := c10
  clear hw
  go_cut [4] (fun v4 wc => ∃ B, v4 = .pointer (some ⟨B, 0, none⟩) ∧ Aside0 (InsAt k a b A n c 0 w B wc))
  case first =>
    have c11 : ∀ o : Obj, (w1.alloc o).cell? ⟨w.heap.size, 0, none⟩ = some (.int .i64 k) := fun o => pw_cell_below (below_alloc (Below.refl _ w1) o) c10
    have c12 : ∀ o o' : Obj, ((w1.alloc o).alloc o').cell? ⟨w.heap.size, 0, none⟩ = some (.int .i64 k) := fun o o' => pw_cell_below (below_alloc (below_alloc (Below.refl _ w1) o) o') c10
    go_region_with (go_at_call 31; refine (table_any _).mono ?_; rintro e w2 ⟨rfl, rfl⟩)
    all_goals go_wp2_with (fail)
    all_goals go_meet
    all_goals first
      | exact ⟨_, rfl, ⟨heap_second w1 _ _, heap_keep HI1.out (below_drew (below_alloc (below_alloc (Below.refl _ _) _) _)), below_drew (below_alloc (below_alloc HB1.out _) _)⟩⟩
      | exact ⟨_, rfl, ⟨heap_keep (heap_alloc_new w1 _) (below_drew (below_alloc (Below.refl _ _) _)), heap_keep HI1.out (below_drew (below_alloc (below_alloc (Below.refl _ _) _) _)), below_drew (below_alloc (below_alloc HB1.out _) _)⟩⟩
  case rest =>
    obtain ⟨B, rfl, HI⟩ := hcut
    clear c10 HI1 HB1
    have rn := (cell_of_row wc B 0 _ _ _ HI.out.1).trans rfl
    have rh := (cell_of_row wc B 1 _ _ _ HI.out.1).trans rfl
    have ia := (cell_of_row wc w.heap.size 1 _ _ _ HI.out.2.1).trans rfl
    have ib := (cell_of_row wc w.heap.size 2 _ _ _ HI.out.2.1).trans rfl
    have il := (cell_of_row wc w.heap.size 3 _ _ _ HI.out.2.1).trans rfl
    replace rn : wc.cell? ⟨B, 0, none⟩ = some (.string (nameAt k)) := rn
    replace rh : wc.cell? ⟨B, 1, none⟩ = some (.int .i64 0) := rh
    replace ia : wc.cell? ⟨w.heap.size, 1, none⟩ = some (.int .i64 a) := ia
    replace ib : wc.cell? ⟨w.heap.size, 2, none⟩ = some (.int .i64 b) := ib
    replace il : wc.cell? ⟨w.heap.size, 3, none⟩ = some (.slice A n c) := il
    have t1 : (bits BinOp.and .i64 0 1 != 0) = false := by kernel_rfl
    have t2 : (bits BinOp.and .i64 0 2 != 0) = false := by kernel_rfl
    have t4 : (bits BinOp.and .i64 0 4 == 0) = true := by kernel_rfl
    go_wp2_with (fail)
    go_ret2
    exact ⟨rfl, HI.out.2.2⟩

set_option maxRecDepth 100000 in
set_option maxHeartbeats 4000000 in
theorem insno_0b (k : Nat) (a b : Int) (A : Option Addr) (c : Nat) (n : Nat) (w : World) (h1 : 1 ≤ k) (h2 : k ≤ 27) (hn : (nameAt k).toList.isEmpty = false) (hh : hasAt k = 0) (hbad : a = 0 ∧ b ≠ 0) :
    Calls Tryd.prog 39 #[.agg #[.int .i64 k, .int .i64 a, .int .i64 b, .slice A n c]] w fun e w' => e = .returned (.tuple #[.string ⟨#[]⟩, .bool false]) ∧ Below w.heap.size w w' := by
  have hix := fun W => index_at W k (by omega)
  rw [hh] at hix
  have hw : ∀ (o : Obj) (W : World), Below (w.alloc o).heap.size (w.alloc o) W → W.heap[w.heap.size]? = some o := fun o W hb => (hb.block w.heap.size (by simp)).trans (heap_alloc_new w o)
  clear hh
  obtain ⟨rfl, hbad⟩ := hbad
  have q1 : (b == 0) = false := by simpa using hbad
  have q2 : (b != 0) = true := by simpa using hbad
  go_enter Tryd.func39, Tryd.ntmps39
  go_wp2_with (go_at_call 10; refine (name_in k _ h1 h2).mono ?_; rintro e w1 ⟨rfl, hb1⟩; have HB1 := Aside0.mk ((below_alloc (Below.refl _ w) _).trans (hb1.mono (by simp))); have HI1 := Aside0.mk (hw _ _ hb1); clear hb1)
  have c10 := cell_of_row w1 w.heap.size 0 _ _ _ HI1.out
  replace c10 : w1.cell? ⟨w.heap.size, 0, none⟩ = some (.int .i64 k) := c10
  clear hw
  go_cut [4] (fun v4 wc => ∃ B, v4 = .pointer (some ⟨B, 0, none⟩) ∧ Aside0 (InsAt k 0 b A n c 0 w B wc))
  case first =>
    have c11 : ∀ o : Obj, (w1.alloc o).cell? ⟨w.heap.size, 0, none⟩ = some (.int .i64 k) := fun o => pw_cell_below (below_alloc (Below.refl _ w1) o) c10
    have c12 : ∀ o o' : Obj, ((w1.alloc o).alloc o').cell? ⟨w.heap.size, 0, none⟩ = some (.int .i64 k) := fun o o' => pw_cell_below (below_alloc (below_alloc (Below.refl _ w1) o) o') c10
    go_region_with (go_at_call 31; refine (table_any _).mono ?_; rintro e w2 ⟨rfl, rfl⟩)
    all_goals go_wp2_with (fail)
    all_goals go_meet
    all_goals first
      | exact ⟨_, rfl, ⟨heap_second w1 _ _, heap_keep HI1.out (below_drew (below_alloc (below_alloc (Below.refl _ _) _) _)), below_drew (below_alloc (below_alloc HB1.out _) _)⟩⟩
      | exact ⟨_, rfl, ⟨heap_keep (heap_alloc_new w1 _) (below_drew (below_alloc (Below.refl _ _) _)), heap_keep HI1.out (below_drew (below_alloc (below_alloc (Below.refl _ _) _) _)), below_drew (below_alloc (below_alloc HB1.out _) _)⟩⟩
  case rest =>
    obtain ⟨B, rfl, HI⟩ := hcut
    clear c10 HI1 HB1
    have rn := (cell_of_row wc B 0 _ _ _ HI.out.1).trans rfl
    have rh := (cell_of_row wc B 1 _ _ _ HI.out.1).trans rfl
    have ia := (cell_of_row wc w.heap.size 1 _ _ _ HI.out.2.1).trans rfl
    have ib := (cell_of_row wc w.heap.size 2 _ _ _ HI.out.2.1).trans rfl
    have il := (cell_of_row wc w.heap.size 3 _ _ _ HI.out.2.1).trans rfl
    replace rn : wc.cell? ⟨B, 0, none⟩ = some (.string (nameAt k)) := rn
    replace rh : wc.cell? ⟨B, 1, none⟩ = some (.int .i64 0) := rh
    replace ia : wc.cell? ⟨w.heap.size, 1, none⟩ = some (.int .i64 0) := ia
    replace ib : wc.cell? ⟨w.heap.size, 2, none⟩ = some (.int .i64 b) := ib
    replace il : wc.cell? ⟨w.heap.size, 3, none⟩ = some (.slice A n c) := il
    have t1 : (bits BinOp.and .i64 0 1 != 0) = false := by kernel_rfl
    have t2 : (bits BinOp.and .i64 0 2 != 0) = false := by kernel_rfl
    have t4 : (bits BinOp.and .i64 0 4 == 0) = true := by kernel_rfl
    go_wp2_with (fail)
    go_ret2
    exact ⟨rfl, HI.out.2.2⟩

set_option maxRecDepth 100000 in
set_option maxHeartbeats 4000000 in
theorem insno_0l (k : Nat) (a b : Int) (A : Option Addr) (c : Nat) (n : Nat) (w : World) (h1 : 1 ≤ k) (h2 : k ≤ 27) (hn : (nameAt k).toList.isEmpty = false) (hh : hasAt k = 0) (hbad : a = 0 ∧ b = 0 ∧ 0 < n) :
    Calls Tryd.prog 39 #[.agg #[.int .i64 k, .int .i64 a, .int .i64 b, .slice A n c]] w fun e w' => e = .returned (.tuple #[.string ⟨#[]⟩, .bool false]) ∧ Below w.heap.size w w' := by
  have hix := fun W => index_at W k (by omega)
  rw [hh] at hix
  have hw : ∀ (o : Obj) (W : World), Below (w.alloc o).heap.size (w.alloc o) W → W.heap[w.heap.size]? = some o := fun o W hb => (hb.block w.heap.size (by simp)).trans (heap_alloc_new w o)
  clear hh
  obtain ⟨rfl, rfl, hbad⟩ := hbad
  have q1 : decide ((n : Int) > 0) = true := by simpa using hbad
  have q2 : decide (0 < (n : Int)) = true := by simpa using hbad
  go_enter Tryd.func39, Tryd.ntmps39
  go_wp2_with (go_at_call 10; refine (name_in k _ h1 h2).mono ?_; rintro e w1 ⟨rfl, hb1⟩; have HB1 := Aside0.mk ((below_alloc (Below.refl _ w) _).trans (hb1.mono (by simp))); have HI1 := Aside0.mk (hw _ _ hb1); clear hb1)
  have c10 := cell_of_row w1 w.heap.size 0 _ _ _ HI1.out
  replace c10 : w1.cell? ⟨w.heap.size, 0, none⟩ = some (.int .i64 k) := c10
  clear hw
  go_cut [4] (fun v4 wc => ∃ B, v4 = .pointer (some ⟨B, 0, none⟩) ∧ Aside0 (InsAt k 0 0 A n c 0 w B wc))
  case first =>
    have c11 : ∀ o : Obj, (w1.alloc o).cell? ⟨w.heap.size, 0, none⟩ = some (.int .i64 k) := fun o => pw_cell_below (below_alloc (Below.refl _ w1) o) c10
    have c12 : ∀ o o' : Obj, ((w1.alloc o).alloc o').cell? ⟨w.heap.size, 0, none⟩ = some (.int .i64 k) := fun o o' => pw_cell_below (below_alloc (below_alloc (Below.refl _ w1) o) o') c10
    go_region_with (go_at_call 31; refine (table_any _).mono ?_; rintro e w2 ⟨rfl, rfl⟩)
    all_goals go_wp2_with (fail)
    all_goals go_meet
    all_goals first
      | exact ⟨_, rfl, ⟨heap_second w1 _ _, heap_keep HI1.out (below_drew (below_alloc (below_alloc (Below.refl _ _) _) _)), below_drew (below_alloc (below_alloc HB1.out _) _)⟩⟩
      | exact ⟨_, rfl, ⟨heap_keep (heap_alloc_new w1 _) (below_drew (below_alloc (Below.refl _ _) _)), heap_keep HI1.out (below_drew (below_alloc (below_alloc (Below.refl _ _) _) _)), below_drew (below_alloc (below_alloc HB1.out _) _)⟩⟩
  case rest =>
    obtain ⟨B, rfl, HI⟩ := hcut
    clear c10 HI1 HB1
    have rn := (cell_of_row wc B 0 _ _ _ HI.out.1).trans rfl
    have rh := (cell_of_row wc B 1 _ _ _ HI.out.1).trans rfl
    have ia := (cell_of_row wc w.heap.size 1 _ _ _ HI.out.2.1).trans rfl
    have ib := (cell_of_row wc w.heap.size 2 _ _ _ HI.out.2.1).trans rfl
    have il := (cell_of_row wc w.heap.size 3 _ _ _ HI.out.2.1).trans rfl
    replace rn : wc.cell? ⟨B, 0, none⟩ = some (.string (nameAt k)) := rn
    replace rh : wc.cell? ⟨B, 1, none⟩ = some (.int .i64 0) := rh
    replace ia : wc.cell? ⟨w.heap.size, 1, none⟩ = some (.int .i64 0) := ia
    replace ib : wc.cell? ⟨w.heap.size, 2, none⟩ = some (.int .i64 0) := ib
    replace il : wc.cell? ⟨w.heap.size, 3, none⟩ = some (.slice A n c) := il
    have t1 : (bits BinOp.and .i64 0 1 != 0) = false := by kernel_rfl
    have t2 : (bits BinOp.and .i64 0 2 != 0) = false := by kernel_rfl
    have t4 : (bits BinOp.and .i64 0 4 == 0) = true := by kernel_rfl
    go_wp2_with (fail)
    go_ret2
    exact ⟨rfl, HI.out.2.2⟩

set_option maxRecDepth 100000 in
set_option maxHeartbeats 4000000 in
theorem insno_1b (k : Nat) (a b : Int) (A : Option Addr) (c : Nat) (n : Nat) (w : World) (h1 : 1 ≤ k) (h2 : k ≤ 27) (hn : (nameAt k).toList.isEmpty = false) (hh : hasAt k = 1) (hbad : b ≠ 0) :
    Calls Tryd.prog 39 #[.agg #[.int .i64 k, .int .i64 a, .int .i64 b, .slice A n c]] w fun e w' => e = .returned (.tuple #[.string ⟨#[]⟩, .bool false]) ∧ Below w.heap.size w w' := by
  have hix := fun W => index_at W k (by omega)
  rw [hh] at hix
  have hw : ∀ (o : Obj) (W : World), Below (w.alloc o).heap.size (w.alloc o) W → W.heap[w.heap.size]? = some o := fun o W hb => (hb.block w.heap.size (by simp)).trans (heap_alloc_new w o)
  clear hh
  have q1 : (b == 0) = false := by simpa using hbad
  have q2 : (b != 0) = true := by simpa using hbad
  go_enter Tryd.func39, Tryd.ntmps39
  go_wp2_with (go_at_call 10; refine (name_in k _ h1 h2).mono ?_; rintro e w1 ⟨rfl, hb1⟩; have HB1 := Aside0.mk ((below_alloc (Below.refl _ w) _).trans (hb1.mono (by simp))); have HI1 := Aside0.mk (hw _ _ hb1); clear hb1)
  have c10 := cell_of_row w1 w.heap.size 0 _ _ _ HI1.out
  replace c10 : w1.cell? ⟨w.heap.size, 0, none⟩ = some (.int .i64 k) := c10
  clear hw
  go_cut [4] (fun v4 wc => ∃ B, v4 = .pointer (some ⟨B, 0, none⟩) ∧ Aside0 (InsAt k a b A n c 1 w B wc))
  case first =>
    have c11 : ∀ o : Obj, (w1.alloc o).cell? ⟨w.heap.size, 0, none⟩ = some (.int .i64 k) := fun o => pw_cell_below (below_alloc (Below.refl _ w1) o) c10
    have c12 : ∀ o o' : Obj, ((w1.alloc o).alloc o').cell? ⟨w.heap.size, 0, none⟩ = some (.int .i64 k) := fun o o' => pw_cell_below (below_alloc (below_alloc (Below.refl _ w1) o) o') c10
    go_region_with (go_at_call 31; refine (table_any _).mono ?_; rintro e w2 ⟨rfl, rfl⟩)
    all_goals go_wp2_with (fail)
    all_goals go_meet
    all_goals first
      | exact ⟨_, rfl, ⟨heap_second w1 _ _, heap_keep HI1.out (below_drew (below_alloc (below_alloc (Below.refl _ _) _) _)), below_drew (below_alloc (below_alloc HB1.out _) _)⟩⟩
      | exact ⟨_, rfl, ⟨heap_keep (heap_alloc_new w1 _) (below_drew (below_alloc (Below.refl _ _) _)), heap_keep HI1.out (below_drew (below_alloc (below_alloc (Below.refl _ _) _) _)), below_drew (below_alloc (below_alloc HB1.out _) _)⟩⟩
  case rest =>
    obtain ⟨B, rfl, HI⟩ := hcut
    clear c10 HI1 HB1
    have rn := (cell_of_row wc B 0 _ _ _ HI.out.1).trans rfl
    have rh := (cell_of_row wc B 1 _ _ _ HI.out.1).trans rfl
    have ia := (cell_of_row wc w.heap.size 1 _ _ _ HI.out.2.1).trans rfl
    have ib := (cell_of_row wc w.heap.size 2 _ _ _ HI.out.2.1).trans rfl
    have il := (cell_of_row wc w.heap.size 3 _ _ _ HI.out.2.1).trans rfl
    replace rn : wc.cell? ⟨B, 0, none⟩ = some (.string (nameAt k)) := rn
    replace rh : wc.cell? ⟨B, 1, none⟩ = some (.int .i64 1) := rh
    replace ia : wc.cell? ⟨w.heap.size, 1, none⟩ = some (.int .i64 a) := ia
    replace ib : wc.cell? ⟨w.heap.size, 2, none⟩ = some (.int .i64 b) := ib
    replace il : wc.cell? ⟨w.heap.size, 3, none⟩ = some (.slice A n c) := il
    have t1 : (bits BinOp.and .i64 1 1 != 0) = true := by kernel_rfl
    have t2 : (bits BinOp.and .i64 1 2 != 0) = false := by kernel_rfl
    have t4 : (bits BinOp.and .i64 1 4 == 0) = true := by kernel_rfl
    go_wp2_with (first | ((with_reducible refine gate_builtin (b := .append) (xs := #[.tmp 18, .tmp 21]) rfl ?_); at_builtin; refine Kd.R_append (Kd.int .i64) (w0 := wc) wc.heap.size rfl (.tmp 18) (.tmp 21) 26 3 (.int .i64 0) 8 rfl Tryd.underlying26 info3 rfl (by decide) (by omega) (.slice none 0 0) ([] : List Int) a [.int .i64 a] (fun _ => True) (fun _ => False) rfl rfl ?aP (fun _ hk => hk.elim) ?aF ?aO ?aB ?aS ?aL ?_; (case aP => exact rfl); (case aB => exact Below.refl _ _); (case aF => exact (fun _ _ => trivial)); (case aO => exact Kd.R_nil _ _ _ _ _); (case aS => exact Nat.le_refl _); (case aL => simp); intro v6 w6 ho hb hg_ hat_; clear hg_ hat_; have HO6 : Aside0 (Kd.R (Kd.int .i64) 3 w6 wc.heap.size (fun _ => True) v6 [a]) := ⟨ho⟩; have HB6 := Aside0.mk hb; have rn6 := pw_cell_below hb rn; have rh6 := pw_cell_below hb rh; have ib6 := pw_cell_below hb ib; have il6 := pw_cell_below hb il; clear ho hb))
    go_ret2
    exact ⟨rfl, below_then HI.out.2.2 HI.out.2.2.size HB6.out⟩

set_option maxRecDepth 100000 in
set_option maxHeartbeats 4000000 in
theorem insno_1l (k : Nat) (a b : Int) (A : Option Addr) (c : Nat) (n : Nat) (w : World) (h1 : 1 ≤ k) (h2 : k ≤ 27) (hn : (nameAt k).toList.isEmpty = false) (hh : hasAt k = 1) (hbad : b = 0 ∧ 0 < n) :
    Calls Tryd.prog 39 #[.agg #[.int .i64 k, .int .i64 a, .int .i64 b, .slice A n c]] w fun e w' => e = .returned (.tuple #[.string ⟨#[]⟩, .bool false]) ∧ Below w.heap.size w w' := by
  have hix := fun W => index_at W k (by omega)
  rw [hh] at hix
  have hw : ∀ (o : Obj) (W : World), Below (w.alloc o).heap.size (w.alloc o) W → W.heap[w.heap.size]? = some o := fun o W hb => (hb.block w.heap.size (by simp)).trans (heap_alloc_new w o)
  clear hh
  obtain ⟨rfl, hbad⟩ := hbad
  have q1 : decide ((n : Int) > 0) = true := by simpa using hbad
  have q2 : decide (0 < (n : Int)) = true := by simpa using hbad
  go_enter Tryd.func39, Tryd.ntmps39
  go_wp2_with (go_at_call 10; refine (name_in k _ h1 h2).mono ?_; rintro e w1 ⟨rfl, hb1⟩; have HB1 := Aside0.mk ((below_alloc (Below.refl _ w) _).trans (hb1.mono (by simp))); have HI1 := Aside0.mk (hw _ _ hb1); clear hb1)
  have c10 := cell_of_row w1 w.heap.size 0 _ _ _ HI1.out
  replace c10 : w1.cell? ⟨w.heap.size, 0, none⟩ = some (.int .i64 k) := c10
  clear hw
  go_cut [4] (fun v4 wc => ∃ B, v4 = .pointer (some ⟨B, 0, none⟩) ∧ Aside0 (InsAt k a 0 A n c 1 w B wc))
  case first =>
    have c11 : ∀ o : Obj, (w1.alloc o).cell? ⟨w.heap.size, 0, none⟩ = some (.int .i64 k) := fun o => pw_cell_below (below_alloc (Below.refl _ w1) o) c10
    have c12 : ∀ o o' : Obj, ((w1.alloc o).alloc o').cell? ⟨w.heap.size, 0, none⟩ = some (.int .i64 k) := fun o o' => pw_cell_below (below_alloc (below_alloc (Below.refl _ w1) o) o') c10
    go_region_with (go_at_call 31; refine (table_any _).mono ?_; rintro e w2 ⟨rfl, rfl⟩)
    all_goals go_wp2_with (fail)
    all_goals go_meet
    all_goals first
      | exact ⟨_, rfl, ⟨heap_second w1 _ _, heap_keep HI1.out (below_drew (below_alloc (below_alloc (Below.refl _ _) _) _)), below_drew (below_alloc (below_alloc HB1.out _) _)⟩⟩
      | exact ⟨_, rfl, ⟨heap_keep (heap_alloc_new w1 _) (below_drew (below_alloc (Below.refl _ _) _)), heap_keep HI1.out (below_drew (below_alloc (below_alloc (Below.refl _ _) _) _)), below_drew (below_alloc (below_alloc HB1.out _) _)⟩⟩
  case rest =>
    obtain ⟨B, rfl, HI⟩ := hcut
    clear c10 HI1 HB1
    have rn := (cell_of_row wc B 0 _ _ _ HI.out.1).trans rfl
    have rh := (cell_of_row wc B 1 _ _ _ HI.out.1).trans rfl
    have ia := (cell_of_row wc w.heap.size 1 _ _ _ HI.out.2.1).trans rfl
    have ib := (cell_of_row wc w.heap.size 2 _ _ _ HI.out.2.1).trans rfl
    have il := (cell_of_row wc w.heap.size 3 _ _ _ HI.out.2.1).trans rfl
    replace rn : wc.cell? ⟨B, 0, none⟩ = some (.string (nameAt k)) := rn
    replace rh : wc.cell? ⟨B, 1, none⟩ = some (.int .i64 1) := rh
    replace ia : wc.cell? ⟨w.heap.size, 1, none⟩ = some (.int .i64 a) := ia
    replace ib : wc.cell? ⟨w.heap.size, 2, none⟩ = some (.int .i64 0) := ib
    replace il : wc.cell? ⟨w.heap.size, 3, none⟩ = some (.slice A n c) := il
    have t1 : (bits BinOp.and .i64 1 1 != 0) = true := by kernel_rfl
    have t2 : (bits BinOp.and .i64 1 2 != 0) = false := by kernel_rfl
    have t4 : (bits BinOp.and .i64 1 4 == 0) = true := by kernel_rfl
    go_wp2_with (first | ((with_reducible refine gate_builtin (b := .append) (xs := #[.tmp 18, .tmp 21]) rfl ?_); at_builtin; refine Kd.R_append (Kd.int .i64) (w0 := wc) wc.heap.size rfl (.tmp 18) (.tmp 21) 26 3 (.int .i64 0) 8 rfl Tryd.underlying26 info3 rfl (by decide) (by omega) (.slice none 0 0) ([] : List Int) a [.int .i64 a] (fun _ => True) (fun _ => False) rfl rfl ?aP (fun _ hk => hk.elim) ?aF ?aO ?aB ?aS ?aL ?_; (case aP => exact rfl); (case aB => exact Below.refl _ _); (case aF => exact (fun _ _ => trivial)); (case aO => exact Kd.R_nil _ _ _ _ _); (case aS => exact Nat.le_refl _); (case aL => simp); intro v6 w6 ho hb hg_ hat_; clear hg_ hat_; have HO6 : Aside0 (Kd.R (Kd.int .i64) 3 w6 wc.heap.size (fun _ => True) v6 [a]) := ⟨ho⟩; have HB6 := Aside0.mk hb; have rn6 := pw_cell_below hb rn; have rh6 := pw_cell_below hb rh; have ib6 := pw_cell_below hb ib; have il6 := pw_cell_below hb il; clear ho hb))
    go_ret2
    exact ⟨rfl, below_then HI.out.2.2 HI.out.2.2.size HB6.out⟩

set_option maxRecDepth 100000 in
set_option maxHeartbeats 4000000 in
theorem insno_3l (k : Nat) (a b : Int) (A : Option Addr) (c : Nat) (n : Nat) (w : World) (h1 : 1 ≤ k) (h2 : k ≤ 27) (hn : (nameAt k).toList.isEmpty = false) (hh : hasAt k = 3) (hbad : 0 < n) :
    Calls Tryd.prog 39 #[.agg #[.int .i64 k, .int .i64 a, .int .i64 b, .slice A n c]] w fun e w' => e = .returned (.tuple #[.string ⟨#[]⟩, .bool false]) ∧ Below w.heap.size w w' := by
  have hix := fun W => index_at W k (by omega)
  rw [hh] at hix
  have hw : ∀ (o : Obj) (W : World), Below (w.alloc o).heap.size (w.alloc o) W → W.heap[w.heap.size]? = some o := fun o W hb => (hb.block w.heap.size (by simp)).trans (heap_alloc_new w o)
  clear hh
  have q1 : decide ((n : Int) > 0) = true := by simpa using hbad
  have q2 : decide (0 < (n : Int)) = true := by simpa using hbad
  go_enter Tryd.func39, Tryd.ntmps39
  go_wp2_with (go_at_call 10; refine (name_in k _ h1 h2).mono ?_; rintro e w1 ⟨rfl, hb1⟩; have HB1 := Aside0.mk ((below_alloc (Below.refl _ w) _).trans (hb1.mono (by simp))); have HI1 := Aside0.mk (hw _ _ hb1); clear hb1)
  have c10 := cell_of_row w1 w.heap.size 0 _ _ _ HI1.out
  replace c10 : w1.cell? ⟨w.heap.size, 0, none⟩ = some (.int .i64 k) := c10
  clear hw
  go_cut [4] (fun v4 wc => ∃ B, v4 = .pointer (some ⟨B, 0, none⟩) ∧ Aside0 (InsAt k a b A n c 3 w B wc))
  case first =>
    have c11 : ∀ o : Obj, (w1.alloc o).cell? ⟨w.heap.size, 0, none⟩ = some (.int .i64 k) := fun o => pw_cell_below (below_alloc (Below.refl _ w1) o) c10
    have c12 : ∀ o o' : Obj, ((w1.alloc o).alloc o').cell? ⟨w.heap.size, 0, none⟩ = some (.int .i64 k) := fun o o' => pw_cell_below (below_alloc (below_alloc (Below.refl _ w1) o) o') c10
    go_region_with (go_at_call 31; refine (table_any _).mono ?_; rintro e w2 ⟨rfl, rfl⟩)
    all_goals go_wp2_with (fail)
    all_goals go_meet
    all_goals first
      | exact ⟨_, rfl, ⟨heap_second w1 _ _, heap_keep HI1.out (below_drew (below_alloc (below_alloc (Below.refl _ _) _) _)), below_drew (below_alloc (below_alloc HB1.out _) _)⟩⟩
      | exact ⟨_, rfl, ⟨heap_keep (heap_alloc_new w1 _) (below_drew (below_alloc (Below.refl _ _) _)), heap_keep HI1.out (below_drew (below_alloc (below_alloc (Below.refl _ _) _) _)), below_drew (below_alloc (below_alloc HB1.out _) _)⟩⟩
  case rest =>
    obtain ⟨B, rfl, HI⟩ := hcut
    clear c10 HI1 HB1
    have rn := (cell_of_row wc B 0 _ _ _ HI.out.1).trans rfl
    have rh := (cell_of_row wc B 1 _ _ _ HI.out.1).trans rfl
    have ia := (cell_of_row wc w.heap.size 1 _ _ _ HI.out.2.1).trans rfl
    have ib := (cell_of_row wc w.heap.size 2 _ _ _ HI.out.2.1).trans rfl
    have il := (cell_of_row wc w.heap.size 3 _ _ _ HI.out.2.1).trans rfl
    replace rn : wc.cell? ⟨B, 0, none⟩ = some (.string (nameAt k)) := rn
    replace rh : wc.cell? ⟨B, 1, none⟩ = some (.int .i64 3) := rh
    replace ia : wc.cell? ⟨w.heap.size, 1, none⟩ = some (.int .i64 a) := ia
    replace ib : wc.cell? ⟨w.heap.size, 2, none⟩ = some (.int .i64 b) := ib
    replace il : wc.cell? ⟨w.heap.size, 3, none⟩ = some (.slice A n c) := il
    have t1 : (bits BinOp.and .i64 3 1 != 0) = true := by kernel_rfl
    have t2 : (bits BinOp.and .i64 3 2 != 0) = true := by kernel_rfl
    have t4 : (bits BinOp.and .i64 3 4 == 0) = true := by kernel_rfl
    go_wp2_with (first | ((with_reducible refine gate_builtin (b := .append) (xs := #[.tmp 18, .tmp 21]) rfl ?_); at_builtin; refine Kd.R_append (Kd.int .i64) (w0 := wc) wc.heap.size rfl (.tmp 18) (.tmp 21) 26 3 (.int .i64 0) 8 rfl Tryd.underlying26 info3 rfl (by decide) (by omega) (.slice none 0 0) ([] : List Int) a [.int .i64 a] (fun _ => True) (fun _ => False) rfl rfl ?aP (fun _ hk => hk.elim) ?aF ?aO ?aB ?aS ?aL ?_; (case aP => exact rfl); (case aB => exact Below.refl _ _); (case aF => exact (fun _ _ => trivial)); (case aO => exact Kd.R_nil _ _ _ _ _); (case aS => exact Nat.le_refl _); (case aL => simp); intro v6 w6 ho hb hg_ hat_; clear hg_ hat_; have HO6 : Aside0 (Kd.R (Kd.int .i64) 3 w6 wc.heap.size (fun _ => True) v6 [a]) := ⟨ho⟩; have HB6 := Aside0.mk hb; have rn6 := pw_cell_below hb rn; have rh6 := pw_cell_below hb rh; have ib6 := pw_cell_below hb ib; have il6 := pw_cell_below hb il; clear ho hb) | ((with_reducible refine gate_builtin (b := .append) (xs := #[.tmp 30, .tmp 33]) rfl ?_); at_builtin; refine Kd.R_append (Kd.int .i64) (w0 := wc) wc.heap.size rfl (.tmp 30) (.tmp 33) 26 3 (.int .i64 0) 8 rfl Tryd.underlying26 info3 rfl (by decide) (by omega) v6 [a] b [.int .i64 b] (fun _ => True) (fun _ => False) rfl rfl ?aP (fun _ hk => hk.elim) ?aF ?aO ?aB ?aS ?aL ?_; (case aP => exact rfl); (case aB => exact HB6.out); (case aF => exact (fun _ _ => trivial)); (case aO => exact HO6.out); (case aS => exact HB6.out.size); (case aL => simp); intro v7 w7 ho hb hg_ hat_; clear hg_ hat_; have HO7 : Aside0 (Kd.R (Kd.int .i64) 3 w7 wc.heap.size (fun _ => True) v7 [a, b]) := ⟨ho⟩; have HB7 := Aside0.mk hb; have rn7 := pw_cell_below hb rn; have rh7 := pw_cell_below hb rh; have ib7 := pw_cell_below hb ib; have il7 := pw_cell_below hb il; clear ho hb))
    go_ret2
    exact ⟨rfl, below_then HI.out.2.2 HI.out.2.2.size HB7.out⟩

set_option maxRecDepth 100000 in
set_option maxHeartbeats 4000000 in
theorem insno_4a (k : Nat) (a b : Int) (A : Option Addr) (c : Nat) (n : Nat) (w : World) (h1 : 1 ≤ k) (h2 : k ≤ 27) (hn : (nameAt k).toList.isEmpty = false) (hh : hasAt k = 4) (hbad : a ≠ 0) :
    Calls Tryd.prog 39 #[.agg #[.int .i64 k, .int .i64 a, .int .i64 b, .slice A n c]] w fun e w' => e = .returned (.tuple #[.string ⟨#[]⟩, .bool false]) ∧ Below w.heap.size w w' := by
  have hix := fun W => index_at W k (by omega)
  rw [hh] at hix
  have hw : ∀ (o : Obj) (W : World), Below (w.alloc o).heap.size (w.alloc o) W → W.heap[w.heap.size]? = some o := fun o W hb => (hb.block w.heap.size (by simp)).trans (heap_alloc_new w o)
  clear hh
  have q1 : (a == 0) = false := by simpa using hbad
  have q2 : (a != 0) = true := by simpa using hbad
  go_enter Tryd.func39, Tryd.ntmps39
  go_wp2_with (go_at_call 10; refine (name_in k _ h1 h2).mono ?_; rintro e w1 ⟨rfl, hb1⟩; have HB1 := Aside0.mk ((below_alloc (Below.refl _ w) _).trans (hb1.mono (by simp))); have HI1 := Aside0.mk (hw _ _ hb1); clear hb1)
  have c10 := cell_of_row w1 w.heap.size 0 _ _ _ HI1.out
  replace c10 : w1.cell? ⟨w.heap.size, 0, none⟩ = some (.int .i64 k) := c10
  clear hw
  go_cut [4] (fun v4 wc => ∃ B, v4 = .pointer (some ⟨B, 0, none⟩) ∧ Aside0 (InsAt k a b A n c 4 w B wc))
  case first =>
    have c11 : ∀ o : Obj, (w1.alloc o).cell? ⟨w.heap.size, 0, none⟩ = some (.int .i64 k) := fun o => pw_cell_below (below_alloc (Below.refl _ w1) o) c10
    have c12 : ∀ o o' : Obj, ((w1.alloc o).alloc o').cell? ⟨w.heap.size, 0, none⟩ = some (.int .i64 k) := fun o o' => pw_cell_below (below_alloc (below_alloc (Below.refl _ w1) o) o') c10
    go_region_with (go_at_call 31; refine (table_any _).mono ?_; rintro e w2 ⟨rfl, rfl⟩)
    all_goals go_wp2_with (fail)
    all_goals go_meet
    all_goals first
      | exact ⟨_, rfl, ⟨heap_second w1 _ _, heap_keep HI1.out (below_drew (below_alloc (below_alloc (Below.refl _ _) _) _)), below_drew (below_alloc (below_alloc HB1.out _) _)⟩⟩
      | exact ⟨_, rfl, ⟨heap_keep (heap_alloc_new w1 _) (below_drew (below_alloc (Below.refl _ _) _)), heap_keep HI1.out (below_drew (below_alloc (below_alloc (Below.refl _ _) _) _)), below_drew (below_alloc (below_alloc HB1.out _) _)⟩⟩
  case rest =>
    obtain ⟨B, rfl, HI⟩ := hcut
    clear c10 HI1 HB1
    have rn := (cell_of_row wc B 0 _ _ _ HI.out.1).trans rfl
    have rh := (cell_of_row wc B 1 _ _ _ HI.out.1).trans rfl
    have ia := (cell_of_row wc w.heap.size 1 _ _ _ HI.out.2.1).trans rfl
    have ib := (cell_of_row wc w.heap.size 2 _ _ _ HI.out.2.1).trans rfl
    have il := (cell_of_row wc w.heap.size 3 _ _ _ HI.out.2.1).trans rfl
    replace rn : wc.cell? ⟨B, 0, none⟩ = some (.string (nameAt k)) := rn
    replace rh : wc.cell? ⟨B, 1, none⟩ = some (.int .i64 4) := rh
    replace ia : wc.cell? ⟨w.heap.size, 1, none⟩ = some (.int .i64 a) := ia
    replace ib : wc.cell? ⟨w.heap.size, 2, none⟩ = some (.int .i64 b) := ib
    replace il : wc.cell? ⟨w.heap.size, 3, none⟩ = some (.slice A n c) := il
    have t1 : (bits BinOp.and .i64 4 1 != 0) = false := by kernel_rfl
    have t2 : (bits BinOp.and .i64 4 2 != 0) = false := by kernel_rfl
    have t4 : (bits BinOp.and .i64 4 4 == 0) = false := by kernel_rfl
    go_wp2_with (fail)
    go_ret2
    exact ⟨rfl, HI.out.2.2⟩

set_option maxRecDepth 100000 in
set_option maxHeartbeats 4000000 in
theorem insno_4b (k : Nat) (a b : Int) (A : Option Addr) (c : Nat) (n : Nat) (w : World) (h1 : 1 ≤ k) (h2 : k ≤ 27) (hn : (nameAt k).toList.isEmpty = false) (hh : hasAt k = 4) (hbad : a = 0 ∧ b ≠ 0) :
    Calls Tryd.prog 39 #[.agg #[.int .i64 k, .int .i64 a, .int .i64 b, .slice A n c]] w fun e w' => e = .returned (.tuple #[.string ⟨#[]⟩, .bool false]) ∧ Below w.heap.size w w' := by
  have hix := fun W => index_at W k (by omega)
  rw [hh] at hix
  have hw : ∀ (o : Obj) (W : World), Below (w.alloc o).heap.size (w.alloc o) W → W.heap[w.heap.size]? = some o := fun o W hb => (hb.block w.heap.size (by simp)).trans (heap_alloc_new w o)
  clear hh
  obtain ⟨rfl, hbad⟩ := hbad
  have q1 : (b == 0) = false := by simpa using hbad
  have q2 : (b != 0) = true := by simpa using hbad
  go_enter Tryd.func39, Tryd.ntmps39
  go_wp2_with (go_at_call 10; refine (name_in k _ h1 h2).mono ?_; rintro e w1 ⟨rfl, hb1⟩; have HB1 := Aside0.mk ((below_alloc (Below.refl _ w) _).trans (hb1.mono (by simp))); have HI1 := Aside0.mk (hw _ _ hb1); clear hb1)
  have c10 := cell_of_row w1 w.heap.size 0 _ _ _ HI1.out
  replace c10 : w1.cell? ⟨w.heap.size, 0, none⟩ = some (.int .i64 k) := c10
  clear hw
  go_cut [4] (fun v4 wc => ∃ B, v4 = .pointer (some ⟨B, 0, none⟩) ∧ Aside0 (InsAt k 0 b A n c 4 w B wc))
  case first =>
    have c11 : ∀ o : Obj, (w1.alloc o).cell? ⟨w.heap.size, 0, none⟩ = some (.int .i64 k) := fun o => pw_cell_below (below_alloc (Below.refl _ w1) o) c10
    have c12 : ∀ o o' : Obj, ((w1.alloc o).alloc o').cell? ⟨w.heap.size, 0, none⟩ = some (.int .i64 k) := fun o o' => pw_cell_below (below_alloc (below_alloc (Below.refl _ w1) o) o') c10
    go_region_with (go_at_call 31; refine (table_any _).mono ?_; rintro e w2 ⟨rfl, rfl⟩)
    all_goals go_wp2_with (fail)
    all_goals go_meet
    all_goals first
      | exact ⟨_, rfl, ⟨heap_second w1 _ _, heap_keep HI1.out (below_drew (below_alloc (below_alloc (Below.refl _ _) _) _)), below_drew (below_alloc (below_alloc HB1.out _) _)⟩⟩
      | exact ⟨_, rfl, ⟨heap_keep (heap_alloc_new w1 _) (below_drew (below_alloc (Below.refl _ _) _)), heap_keep HI1.out (below_drew (below_alloc (below_alloc (Below.refl _ _) _) _)), below_drew (below_alloc (below_alloc HB1.out _) _)⟩⟩
  case rest =>
    obtain ⟨B, rfl, HI⟩ := hcut
    clear c10 HI1 HB1
    have rn := (cell_of_row wc B 0 _ _ _ HI.out.1).trans rfl
    have rh := (cell_of_row wc B 1 _ _ _ HI.out.1).trans rfl
    have ia := (cell_of_row wc w.heap.size 1 _ _ _ HI.out.2.1).trans rfl
    have ib := (cell_of_row wc w.heap.size 2 _ _ _ HI.out.2.1).trans rfl
    have il := (cell_of_row wc w.heap.size 3 _ _ _ HI.out.2.1).trans rfl
    replace rn : wc.cell? ⟨B, 0, none⟩ = some (.string (nameAt k)) := rn
    replace rh : wc.cell? ⟨B, 1, none⟩ = some (.int .i64 4) := rh
    replace ia : wc.cell? ⟨w.heap.size, 1, none⟩ = some (.int .i64 0) := ia
    replace ib : wc.cell? ⟨w.heap.size, 2, none⟩ = some (.int .i64 b) := ib
    replace il : wc.cell? ⟨w.heap.size, 3, none⟩ = some (.slice A n c) := il
    have t1 : (bits BinOp.and .i64 4 1 != 0) = false := by kernel_rfl
    have t2 : (bits BinOp.and .i64 4 2 != 0) = false := by kernel_rfl
    have t4 : (bits BinOp.and .i64 4 4 == 0) = false := by kernel_rfl
    go_wp2_with (fail)
    go_ret2
    exact ⟨rfl, HI.out.2.2⟩

set_option maxRecDepth 100000 in
set_option maxHeartbeats 4000000 in
theorem insno_5b (k : Nat) (a b : Int) (A : Option Addr) (c : Nat) (n : Nat) (w : World) (h1 : 1 ≤ k) (h2 : k ≤ 27) (hn : (nameAt k).toList.isEmpty = false) (hh : hasAt k = 5) (hbad : b ≠ 0) :
    Calls Tryd.prog 39 #[.agg #[.int .i64 k, .int .i64 a, .int .i64 b, .slice A n c]] w fun e w' => e = .returned (.tuple #[.string ⟨#[]⟩, .bool false]) ∧ Below w.heap.size w w' := by
  have hix := fun W => index_at W k (by omega)
  rw [hh] at hix
  have hw : ∀ (o : Obj) (W : World), Below (w.alloc o).heap.size (w.alloc o) W → W.heap[w.heap.size]? = some o := fun o W hb => (hb.block w.heap.size (by simp)).trans (heap_alloc_new w o)
  clear hh
  have q1 : (b == 0) = false := by simpa using hbad
  have q2 : (b != 0) = true := by simpa using hbad
  go_enter Tryd.func39, Tryd.ntmps39
  go_wp2_with (go_at_call 10; refine (name_in k _ h1 h2).mono ?_; rintro e w1 ⟨rfl, hb1⟩; have HB1 := Aside0.mk ((below_alloc (Below.refl _ w) _).trans (hb1.mono (by simp))); have HI1 := Aside0.mk (hw _ _ hb1); clear hb1)
  have c10 := cell_of_row w1 w.heap.size 0 _ _ _ HI1.out
  replace c10 : w1.cell? ⟨w.heap.size, 0, none⟩ = some (.int .i64 k) := c10
  clear hw
  go_cut [4] (fun v4 wc => ∃ B, v4 = .pointer (some ⟨B, 0, none⟩) ∧ Aside0 (InsAt k a b A n c 5 w B wc))
  case first =>
    have c11 : ∀ o : Obj, (w1.alloc o).cell? ⟨w.heap.size, 0, none⟩ = some (.int .i64 k) := fun o => pw_cell_below (below_alloc (Below.refl _ w1) o) c10
    have c12 : ∀ o o' : Obj, ((w1.alloc o).alloc o').cell? ⟨w.heap.size, 0, none⟩ = some (.int .i64 k) := fun o o' => pw_cell_below (below_alloc (below_alloc (Below.refl _ w1) o) o') c10
    go_region_with (go_at_call 31; refine (table_any _).mono ?_; rintro e w2 ⟨rfl, rfl⟩)
    all_goals go_wp2_with (fail)
    all_goals go_meet
    all_goals first
      | exact ⟨_, rfl, ⟨heap_second w1 _ _, heap_keep HI1.out (below_drew (below_alloc (below_alloc (Below.refl _ _) _) _)), below_drew (below_alloc (below_alloc HB1.out _) _)⟩⟩
      | exact ⟨_, rfl, ⟨heap_keep (heap_alloc_new w1 _) (below_drew (below_alloc (Below.refl _ _) _)), heap_keep HI1.out (below_drew (below_alloc (below_alloc (Below.refl _ _) _) _)), below_drew (below_alloc (below_alloc HB1.out _) _)⟩⟩
  case rest =>
    obtain ⟨B, rfl, HI⟩ := hcut
    clear c10 HI1 HB1
    have rn := (cell_of_row wc B 0 _ _ _ HI.out.1).trans rfl
    have rh := (cell_of_row wc B 1 _ _ _ HI.out.1).trans rfl
    have ia := (cell_of_row wc w.heap.size 1 _ _ _ HI.out.2.1).trans rfl
    have ib := (cell_of_row wc w.heap.size 2 _ _ _ HI.out.2.1).trans rfl
    have il := (cell_of_row wc w.heap.size 3 _ _ _ HI.out.2.1).trans rfl
    replace rn : wc.cell? ⟨B, 0, none⟩ = some (.string (nameAt k)) := rn
    replace rh : wc.cell? ⟨B, 1, none⟩ = some (.int .i64 5) := rh
    replace ia : wc.cell? ⟨w.heap.size, 1, none⟩ = some (.int .i64 a) := ia
    replace ib : wc.cell? ⟨w.heap.size, 2, none⟩ = some (.int .i64 b) := ib
    replace il : wc.cell? ⟨w.heap.size, 3, none⟩ = some (.slice A n c) := il
    have t1 : (bits BinOp.and .i64 5 1 != 0) = true := by kernel_rfl
    have t2 : (bits BinOp.and .i64 5 2 != 0) = false := by kernel_rfl
    have t4 : (bits BinOp.and .i64 5 4 == 0) = false := by kernel_rfl
    go_wp2_with (first | ((with_reducible refine gate_builtin (b := .append) (xs := #[.tmp 18, .tmp 21]) rfl ?_); at_builtin; refine Kd.R_append (Kd.int .i64) (w0 := wc) wc.heap.size rfl (.tmp 18) (.tmp 21) 26 3 (.int .i64 0) 8 rfl Tryd.underlying26 info3 rfl (by decide) (by omega) (.slice none 0 0) ([] : List Int) a [.int .i64 a] (fun _ => True) (fun _ => False) rfl rfl ?aP (fun _ hk => hk.elim) ?aF ?aO ?aB ?aS ?aL ?_; (case aP => exact rfl); (case aB => exact Below.refl _ _); (case aF => exact (fun _ _ => trivial)); (case aO => exact Kd.R_nil _ _ _ _ _); (case aS => exact Nat.le_refl _); (case aL => simp); intro v6 w6 ho hb hg_ hat_; clear hg_ hat_; have HO6 : Aside0 (Kd.R (Kd.int .i64) 3 w6 wc.heap.size (fun _ => True) v6 [a]) := ⟨ho⟩; have HB6 := Aside0.mk hb; have rn6 := pw_cell_below hb rn; have rh6 := pw_cell_below hb rh; have ib6 := pw_cell_below hb ib; have il6 := pw_cell_below hb il; clear ho hb))
    go_ret2
    exact ⟨rfl, below_then HI.out.2.2 HI.out.2.2.size HB6.out⟩

set_option maxRecDepth 100000 in
set_option maxHeartbeats 1000000 in
theorem insno_out (k : Int) (a b : Int) (A : Option Addr) (c : Nat) (n : Nat) (w : World) (h : k < 1 ∨ 27 < k) :
    Calls Tryd.prog 39 #[.agg #[.int .i64 k, .int .i64 a, .int .i64 b, .slice A n c]] w fun e w' => e = .returned (.tuple #[.string ⟨#[]⟩, .bool false]) ∧ Below w.heap.size w w' := by
  go_enter Tryd.func39, Tryd.ntmps39
  go_wp2_with (go_at_call 10; refine (name_out k _ h).mono ?_; rintro e w1 ⟨rfl, hb1⟩; have HB1 := Aside0.mk ((below_alloc (Below.refl _ w) _).trans (hb1.mono (by simp))); clear hb1)
  go_ret2
  exact ⟨rfl, HB1.out⟩

end Go.Proofs.YtfkfgjmhcfagkaaDoor.Given
