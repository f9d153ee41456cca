/- Lemmas for the claim (what no proof of it names is left out). -/
import Derived.Test.YtfkfgjmhcfagkaaDoorQA
import Derived.Lib.ItoaLen
import Derived.Laws.CopyOwn
import Derived.Lib.IndexMore
import Derived.Lib.CountLaws
import Derived.Handy
section
namespace Go.Proofs.YtfkfgjmhcfagkaaDoor.Given
open Go.RowKit Go.Proofs.YtfkfgjmhcfagkaaDoorW.PrintWords Go.Proofs.YtfkfgjmhcfagkaaDoor.Print
set_option linter.unusedVariables false
set_option linter.unusedSimpArgs false
set_option maxRecDepth 100000 in
set_option maxHeartbeats 4000000 in
theorem insno_0a (k : Nat) (a b : Int) (A : Option Addr) (c : Nat) (n : Nat) (w : World) (h1 : 1 ≤ k) (h2 : k ≤ 27) (hn : (nameAt k).toList.isEmpty = false) (hh : hasAt k = 0) (hbad : a ≠ 0) :
    Calls Tryd.prog 39 #[.agg #[.int .i64 k, .int .i64 a, .int .i64 b, .slice A n c]] w fun e w' => e = .returned (.tuple #[.string ⟨#[]⟩, .bool false]) ∧ Below w.heap.size w w' := by
  have hix := fun W => index_at W k (by omega)
  rw [hh] at hix
  have hw : ∀ (o : Obj) (W : World), Below (w.alloc o).heap.size (w.alloc o) W → W.heap[w.heap.size]? = some o := fun o W hb => (hb.block w.heap.size (by simp)).trans (heap_alloc_new w o)
  clear hh
  have q1 : (a == 0) = false := by simpa using hbad
  have q2 : (a != 0) = true := by simpa using hbad
  go_enter Tryd.func39, Tryd.ntmps39
  go_wp2_with (go_at_call 10; refine (name_in k _ h1 h2).mono ?_; rintro e w1 ⟨rfl, hb1⟩; have HB1 := Aside0.mk ((below_alloc (Below.refl _ w) _).trans (hb1.mono (by simp))); have HI1 := Aside0.mk (hw _ _ hb1); clear hb1)
  have c10 := cell_of_row w1 w.heap.size 0 _ _ _ HI1.out
  replace c10 : w1.cell? ⟨w.heap.size, 0, none⟩ = some (.int .i64 k) := c10
  clear hw
  go_cut [4] (fun v4 wc => ∃ B, v4 = .pointer (some ⟨B, 0, none⟩) ∧ Aside0 (InsAt k a b A n c 0 w B wc))
  case first =>
    have c11 : ∀ o : Obj, (w1.alloc o).cell? ⟨w.heap.size, 0, none⟩ = some (.int .i64 k) := fun o => pw_cell_below (below_alloc (Below.refl _ w1) o) c10
    have c12 : ∀ o o' : Obj, ((w1.alloc o).alloc o').cell? ⟨w.heap.size, 0, none⟩ = some (.int .i64 k) := fun o o' => pw_cell_below (below_alloc (below_alloc (Below.refl _ w1) o) o') c10
    go_region_with (go_at_call 31; refine (table_any _).mono ?_; rintro e w2 ⟨rfl, rfl⟩)
    all_goals go_wp2_with (fail)
    all_goals go_meet
    all_goals first
      | exact ⟨_, rfl, ⟨heap_second w1 _ _, heap_keep HI1.out (below_drew (below_alloc (below_alloc (Below.refl _ _) _) _)), below_drew (below_alloc (below_alloc HB1.out _) _)⟩⟩
      | exact ⟨_, rfl, ⟨heap_keep (heap_alloc_new w1 _) (below_drew (below_alloc (Below.refl _ _) _)), heap_keep HI1.out (below_drew (below_alloc (below_alloc (Below.refl _ _) _) _)), below_drew (below_alloc (below_alloc HB1.out _) _)⟩⟩
  case rest =>
    obtain ⟨B, rfl, HI⟩ := hcut
    clear c10 HI1 HB1
    have rn := (cell_of_row wc B 0 _ _ _ HI.out.1).trans rfl
    have rh := (cell_of_row wc B 1 _ _ _ HI.out.1).trans rfl
    have ia := (cell_of_row wc w.heap.size 1 _ _ _ HI.out.2.1).trans rfl
    have ib := (cell_of_row wc w.heap.size 2 _ _ _ HI.out.2.1).trans rfl
    have il := (cell_of_row wc w.heap.size 3 _ _ _ HI.out.2.1).trans rfl
    replace rn : wc.cell? ⟨B, 0, none⟩ = some (.string (nameAt k)) := rn
    replace rh : wc.cell? ⟨B, 1, none⟩ = some (.int .i64 0) := rh
    replace ia : wc.cell? ⟨w.heap.size, 1, none⟩ = some (.int .i64 a) := ia
    replace ib : wc.cell? ⟨w.heap.size, 2, none⟩ = some (.int .i64 b) := ib
    replace il : wc.cell? ⟨w.heap.size, 3, none⟩ = some (.slice A n c) := il
    have t1 : (bits BinOp.and .i64 0 1 != 0) = false := by kernel_rfl
    have t2 : (bits BinOp.and .i64 0 2 != 0) = false := by kernel_rfl
    have t4 : (bits BinOp.and .i64 0 4 == 0) = true := by kernel_rfl
    go_wp2_with (fail)
    go_ret2
    exact ⟨rfl, HI.out.2.2⟩
set_option maxRecDepth 100000 in
set_option maxHeartbeats 4000000 in
theorem insno_0b (k : Nat) (a b : Int) (A : Option Addr) (c : Nat) (n : Nat) (w : World) (h1 : 1 ≤ k) (h2 : k ≤ 27) (hn : (nameAt k).toList.isEmpty = false) (hh : hasAt k = 0) (hbad : a = 0 ∧ b ≠ 0) :
    Calls Tryd.prog 39 #[.agg #[.int .i64 k, .int .i64 a, .int .i64 b, .slice A n c]] w fun e w' => e = .returned (.tuple #[.string ⟨#[]⟩, .bool false]) ∧ Below w.heap.size w w' := by
  have hix := fun W => index_at W k (by omega)
  rw [hh] at hix
  have hw : ∀ (o : Obj) (W : World), Below (w.alloc o).heap.size (w.alloc o) W → W.heap[w.heap.size]? = some o := fun o W hb => (hb.block w.heap.size (by simp)).trans (heap_alloc_new w o)
  clear hh
  obtain ⟨rfl, hbad⟩ := hbad
  have q1 : (b == 0) = false := by simpa using hbad
  have q2 : (b != 0) = true := by simpa using hbad
  go_enter Tryd.func39, Tryd.ntmps39
  go_wp2_with (go_at_call 10; refine (name_in k _ h1 h2).mono ?_; rintro e w1 ⟨rfl, hb1⟩; have HB1 := Aside0.mk ((below_alloc (Below.refl _ w) _).trans (hb1.mono (by simp))); have HI1 := Aside0.mk (hw _ _ hb1); clear hb1)
  have c10 := cell_of_row w1 w.heap.size 0 _ _ _ HI1.out
  replace c10 : w1.cell? ⟨w.heap.size, 0, none⟩ = some (.int .i64 k) := c10
  clear hw
  go_cut [4] (fun v4 wc => ∃ B, v4 = .pointer (some ⟨B, 0, none⟩) ∧ Aside0 (InsAt k 0 b A n c 0 w B wc))
  case first =>
    have c11 : ∀ o : Obj, (w1.alloc o).cell? ⟨w.heap.size, 0, none⟩ = some (.int .i64 k) := fun o => pw_cell_below (below_alloc (Below.refl _ w1) o) c10
    have c12 : ∀ o o' : Obj, ((w1.alloc o).alloc o').cell? ⟨w.heap.size, 0, none⟩ = some (.int .i64 k) := fun o o' => pw_cell_below (below_alloc (below_alloc (Below.refl _ w1) o) o') c10
    go_region_with (go_at_call 31; refine (table_any _).mono ?_; rintro e w2 ⟨rfl, rfl⟩)
    all_goals go_wp2_with (fail)
    all_goals go_meet
    all_goals first
      | exact ⟨_, rfl, ⟨heap_second w1 _ _, heap_keep HI1.out (below_drew (below_alloc (below_alloc (Below.refl _ _) _) _)), below_drew (below_alloc (below_alloc HB1.out _) _)⟩⟩
      | exact ⟨_, rfl, ⟨heap_keep (heap_alloc_new w1 _) (below_drew (below_alloc (Below.refl _ _) _)), heap_keep HI1.out (below_drew (below_alloc (below_alloc (Below.refl _ _) _) _)), below_drew (below_alloc (below_alloc HB1.out _) _)⟩⟩
  case rest =>
    obtain ⟨B, rfl, HI⟩ := hcut
    clear c10 HI1 HB1
    have rn := (cell_of_row wc B 0 _ _ _ HI.out.1).trans rfl
    have rh := (cell_of_row wc B 1 _ _ _ HI.out.1).trans rfl
    have ia := (cell_of_row wc w.heap.size 1 _ _ _ HI.out.2.1).trans rfl
    have ib := (cell_of_row wc w.heap.size 2 _ _ _ HI.out.2.1).trans rfl
    have il := (cell_of_row wc w.heap.size 3 _ _ _ HI.out.2.1).trans rfl
    replace rn : wc.cell? ⟨B, 0, none⟩ = some (.string (nameAt k)) := rn
    replace rh : wc.cell? ⟨B, 1, none⟩ = some (.int .i64 0) := rh
    replace ia : wc.cell? ⟨w.heap.size, 1, none⟩ = some (.int .i64 0) := ia
    replace ib : wc.cell? ⟨w.heap.size, 2, none⟩ = some (.int .i64 b) := ib
    replace il : wc.cell? ⟨w.heap.size, 3, none⟩ = some (.slice A n c) := il
    have t1 : (bits BinOp.and .i64 0 1 != 0) = false := by kernel_rfl
    have t2 : (bits BinOp.and .i64 0 2 != 0) = false := by kernel_rfl
    have t4 : (bits BinOp.and .i64 0 4 == 0) = true := by kernel_rfl
    go_wp2_with (fail)
    go_ret2
    exact ⟨rfl, HI.out.2.2⟩
set_option maxRecDepth 100000 in
set_option maxHeartbeats 4000000 in
theorem insno_0l (k : Nat) (a b : Int) (A : Option Addr) (c : Nat) (n : Nat) (w : World) (h1 : 1 ≤ k) (h2 : k ≤ 27) (hn : (nameAt k).toList.isEmpty = false) (hh : hasAt k = 0) (hbad : a = 0 ∧ b = 0 ∧ 0 < n) :
    Calls Tryd.prog 39 #[.agg #[.int .i64 k, .int .i64 a, .int .i64 b, .slice A n c]] w fun e w' => e = .returned (.tuple #[.string ⟨#[]⟩, .bool false]) ∧ Below w.heap.size w w' := by
  have hix := fun W => index_at W k (by omega)
  rw [hh] at hix
  have hw : ∀ (o : Obj) (W : World), Below (w.alloc o).heap.size (w.alloc o) W → W.heap[w.heap.size]? = some o := fun o W hb => (hb.block w.heap.size (by simp)).trans (heap_alloc_new w o)
  clear hh
  obtain ⟨rfl, rfl, hbad⟩ := hbad
  have q1 : decide ((n : Int) > 0) = true := by simpa using hbad
  have q2 : decide (0 < (n : Int)) = true := by simpa using hbad
  go_enter Tryd.func39, Tryd.ntmps39
  go_wp2_with (go_at_call 10; refine (name_in k _ h1 h2).mono ?_; rintro e w1 ⟨rfl, hb1⟩; have HB1 := Aside0.mk ((below_alloc (Below.refl _ w) _).trans (hb1.mono (by simp))); have HI1 := Aside0.mk (hw _ _ hb1); clear hb1)
  have c10 := cell_of_row w1 w.heap.size 0 _ _ _ HI1.out
  replace c10 : w1.cell? ⟨w.heap.size, 0, none⟩ = some (.int .i64 k) := c10
  clear hw
  go_cut [4] (fun v4 wc => ∃ B, v4 = .pointer (some ⟨B, 0, none⟩) ∧ Aside0 (InsAt k 0 0 A n c 0 w B wc))
  case first =>
    have c11 : ∀ o : Obj, (w1.alloc o).cell? ⟨w.heap.size, 0, none⟩ = some (.int .i64 k) := fun o => pw_cell_below (below_alloc (Below.refl _ w1) o) c10
    have c12 : ∀ o o' : Obj, ((w1.alloc o).alloc o').cell? ⟨w.heap.size, 0, none⟩ = some (.int .i64 k) := fun o o' => pw_cell_below (below_alloc (below_alloc (Below.refl _ w1) o) o') c10
    go_region_with (go_at_call 31; refine (table_any _).mono ?_; rintro e w2 ⟨rfl, rfl⟩)
    all_goals go_wp2_with (fail)
    all_goals go_meet
    all_goals first
      | exact ⟨_, rfl, ⟨heap_second w1 _ _, heap_keep HI1.out (below_drew (below_alloc (below_alloc (Below.refl _ _) _) _)), below_drew (below_alloc (below_alloc HB1.out _) _)⟩⟩
      | exact ⟨_, rfl, ⟨heap_keep (heap_alloc_new w1 _) (below_drew (below_alloc (Below.refl _ _) _)), heap_keep HI1.out (below_drew (below_alloc (below_alloc (Below.refl _ _) _) _)), below_drew (below_alloc (below_alloc HB1.out _) _)⟩⟩
  case rest =>
    obtain ⟨B, rfl, HI⟩ := hcut
    clear c10 HI1 HB1
    have rn := (cell_of_row wc B 0 _ _ _ HI.out.1).trans rfl
    have rh := (cell_of_row wc B 1 _ _ _ HI.out.1).trans rfl
    have ia := (cell_of_row wc w.heap.size 1 _ _ _ HI.out.2.1).trans rfl
    have ib := (cell_of_row wc w.heap.size 2 _ _ _ HI.out.2.1).trans rfl
    have il := (cell_of_row wc w.heap.size 3 _ _ _ HI.out.2.1).trans rfl
    replace rn : wc.cell? ⟨B, 0, none⟩ = some (.string (nameAt k)) := rn
    replace rh : wc.cell? ⟨B, 1, none⟩ = some (.int .i64 0) := rh
    replace ia : wc.cell? ⟨w.heap.size, 1, none⟩ = some (.int .i64 0) := ia
    replace ib : wc.cell? ⟨w.heap.size, 2, none⟩ = some (.int .i64 0) := ib
    replace il : wc.cell? ⟨w.heap.size, 3, none⟩ = some (.slice A n c) := il
    have t1 : (bits BinOp.and .i64 0 1 != 0) = false := by kernel_rfl
    have t2 : (bits BinOp.and .i64 0 2 != 0) = false := by kernel_rfl
    have t4 : (bits BinOp.and .i64 0 4 == 0) = true := by kernel_rfl
    go_wp2_with (fail)
    go_ret2
    exact ⟨rfl, HI.out.2.2⟩
set_option maxRecDepth 100000 in
set_option maxHeartbeats 4000000 in
theorem insno_1b (k : Nat) (a b : Int) (A : Option Addr) (c : Nat) (n : Nat) (w : World) (h1 : 1 ≤ k) (h2 : k ≤ 27) (hn : (nameAt k).toList.isEmpty = false) (hh : hasAt k = 1) (hbad : b ≠ 0) :
    Calls Tryd.prog 39 #[.agg #[.int .i64 k, .int .i64 a, .int .i64 b, .slice A n c]] w fun e w' => e = .returned (.tuple #[.string ⟨#[]⟩, .bool false]) ∧ Below w.heap.size w w' := by
  have hix := fun W => index_at W k (by omega)
  rw [hh] at hix
  have hw : ∀ (o : Obj) (W : World), Below (w.alloc o).heap.size (w.alloc o) W → W.heap[w.heap.size]? = some o := fun o W hb => (hb.block w.heap.size (by simp)).trans (heap_alloc_new w o)
  clear hh
  have q1 : (b == 0) = false := by simpa using hbad
  have q2 : (b != 0) = true := by simpa using hbad
  go_enter Tryd.func39, Tryd.ntmps39
  go_wp2_with (go_at_call 10; refine (name_in k _ h1 h2).mono ?_; rintro e w1 ⟨rfl, hb1⟩; have HB1 := Aside0.mk ((below_alloc (Below.refl _ w) _).trans (hb1.mono (by simp))); have HI1 := Aside0.mk (hw _ _ hb1); clear hb1)
  have c10 := cell_of_row w1 w.heap.size 0 _ _ _ HI1.out
  replace c10 : w1.cell? ⟨w.heap.size, 0, none⟩ = some (.int .i64 k) := c10
  clear hw
  go_cut [4] (fun v4 wc => ∃ B, v4 = .pointer (some ⟨B, 0, none⟩) ∧ Aside0 (InsAt k a b A n c 1 w B wc))
  case first =>
    have c11 : ∀ o : Obj, (w1.alloc o).cell? ⟨w.heap.size, 0, none⟩ = some (.int .i64 k) := fun o => pw_cell_below (below_alloc (Below.refl _ w1) o) c10
    have c12 : ∀ o o' : Obj, ((w1.alloc o).alloc o').cell? ⟨w.heap.size, 0, none⟩ = some (.int .i64 k) := fun o o' => pw_cell_below (below_alloc (below_alloc (Below.refl _ w1) o) o') c10
    go_region_with (go_at_call 31; refine (table_any _).mono ?_; rintro e w2 ⟨rfl, rfl⟩)
    all_goals go_wp2_with (fail)
    all_goals go_meet
    all_goals first
      | exact ⟨_, rfl, ⟨heap_second w1 _ _, heap_keep HI1.out (below_drew (below_alloc (below_alloc (Below.refl _ _) _) _)), below_drew (below_alloc (below_alloc HB1.out _) _)⟩⟩
      | exact ⟨_, rfl, ⟨heap_keep (heap_alloc_new w1 _) (below_drew (below_alloc (Below.refl _ _) _)), heap_keep HI1.out (below_drew (below_alloc (below_alloc (Below.refl _ _) _) _)), below_drew (below_alloc (below_alloc HB1.out _) _)⟩⟩
  case rest =>
    obtain ⟨B, rfl, HI⟩ := hcut
    clear c10 HI1 HB1
    have rn := (cell_of_row wc B 0 _ _ _ HI.out.1).trans rfl
    have rh := (cell_of_row wc B 1 _ _ _ HI.out.1).trans rfl
    have ia := (cell_of_row wc w.heap.size 1 _ _ _ HI.out.2.1).trans rfl
    have ib := (cell_of_row wc w.heap.size 2 _ _ _ HI.out.2.1).trans rfl
    have il := (cell_of_row wc w.heap.size 3 _ _ _ HI.out.2.1).trans rfl
    replace rn : wc.cell? ⟨B, 0, none⟩ = some (.string (nameAt k)) := rn
    replace rh : wc.cell? ⟨B, 1, none⟩ = some (.int .i64 1) := rh
    replace ia : wc.cell? ⟨w.heap.size, 1, none⟩ = some (.int .i64 a) := ia
    replace ib : wc.cell? ⟨w.heap.size, 2, none⟩ = some (.int .i64 b) := ib
    replace il : wc.cell? ⟨w.heap.size, 3, none⟩ = some (.slice A n c) := il
    have t1 : (bits BinOp.and .i64 1 1 != 0) = true := by kernel_rfl
    have t2 : (bits BinOp.and .i64 1 2 != 0) = false := by kernel_rfl
    have t4 : (bits BinOp.and .i64 1 4 == 0) = true := by kernel_rfl
    go_wp2_with (first | ((with_reducible refine gate_builtin (b := .append) (xs := #[.tmp 18, .tmp 21]) rfl ?_); at_builtin; refine Kd.R_append (Kd.int .i64) (w0 := wc) wc.heap.size rfl (.tmp 18) (.tmp 21) 26 3 (.int .i64 0) 8 rfl Tryd.underlying26 info3 rfl (by decide) (by omega) (.slice none 0 0) ([] : List Int) a [.int .i64 a] (fun _ => True) (fun _ => False) rfl rfl ?aP (fun _ hk => hk.elim) ?aF ?aO ?aB ?aS ?aL ?_; (case aP => exact rfl); (case aB => exact Below.refl _ _); (case aF => exact (fun _ _ => trivial)); (case aO => exact Kd.R_nil _ _ _ _ _); (case aS => exact Nat.le_refl _); (case aL => simp); intro v6 w6 ho hb hg_ hat_; clear hg_ hat_; have HO6 : Aside0 (Kd.R (Kd.int .i64) 3 w6 wc.heap.size (fun _ => True) v6 [a]) := ⟨ho⟩; have HB6 := Aside0.mk hb; have rn6 := pw_cell_below hb rn; have rh6 := pw_cell_below hb rh; have ib6 := pw_cell_below hb ib; have il6 := pw_cell_below hb il; clear ho hb))
    go_ret2
    exact ⟨rfl, below_then HI.out.2.2 HI.out.2.2.size HB6.out⟩
set_option maxRecDepth 100000 in
set_option maxHeartbeats 4000000 in
theorem insno_1l (k : Nat) (a b : Int) (A : Option Addr) (c : Nat) (n : Nat) (w : World) (h1 : 1 ≤ k) (h2 : k ≤ 27) (hn : (nameAt k).toList.isEmpty = false) (hh : hasAt k = 1) (hbad : b = 0 ∧ 0 < n) :
    Calls Tryd.prog 39 #[.agg #[.int .i64 k, .int .i64 a, .int .i64 b, .slice A n c]] w fun e w' => e = .returned (.tuple #[.string ⟨#[]⟩, .bool false]) ∧ Below w.heap.size w w' := by
  have hix := fun W => index_at W k (by omega)
  rw [hh] at hix
  have hw : ∀ (o : Obj) (W : World), Below (w.alloc o).heap.size (w.alloc o) W → W.heap[w.heap.size]? = some o := fun o W hb => (hb.block w.heap.size (by simp)).trans (heap_alloc_new w o)
  clear hh
  obtain ⟨rfl, hbad⟩ := hbad
  have q1 : decide ((n : Int) > 0) = true := by simpa using hbad
  have q2 : decide (0 < (n : Int)) = true := by simpa using hbad
  go_enter Tryd.func39, Tryd.ntmps39
  go_wp2_with (go_at_call 10; refine (name_in k _ h1 h2).mono ?_; rintro e w1 ⟨rfl, hb1⟩; have HB1 := Aside0.mk ((below_alloc (Below.refl _ w) _).trans (hb1.mono (by simp))); have HI1 := Aside0.mk (hw _ _ hb1); clear hb1)
  have c10 := cell_of_row w1 w.heap.size 0 _ _ _ HI1.out
  replace c10 : w1.cell? ⟨w.heap.size, 0, none⟩ = some (.int .i64 k) := c10
  clear hw
  go_cut [4] (fun v4 wc => ∃ B, v4 = .pointer (some ⟨B, 0, none⟩) ∧ Aside0 (InsAt k a 0 A n c 1 w B wc))
  case first =>
    have c11 : ∀ o : Obj, (w1.alloc o).cell? ⟨w.heap.size, 0, none⟩ = some (.int .i64 k) := fun o => pw_cell_below (below_alloc (Below.refl _ w1) o) c10
    have c12 : ∀ o o' : Obj, ((w1.alloc o).alloc o').cell? ⟨w.heap.size, 0, none⟩ = some (.int .i64 k) := fun o o' => pw_cell_below (below_alloc (below_alloc (Below.refl _ w1) o) o') c10
    go_region_with (go_at_call 31; refine (table_any _).mono ?_; rintro e w2 ⟨rfl, rfl⟩)
    all_goals go_wp2_with (fail)
    all_goals go_meet
    all_goals first
      | exact ⟨_, rfl, ⟨heap_second w1 _ _, heap_keep HI1.out (below_drew (below_alloc (below_alloc (Below.refl _ _) _) _)), below_drew (below_alloc (below_alloc HB1.out _) _)⟩⟩
      | exact ⟨_, rfl, ⟨heap_keep (heap_alloc_new w1 _) (below_drew (below_alloc (Below.refl _ _) _)), heap_keep HI1.out (below_drew (below_alloc (below_alloc (Below.refl _ _) _) _)), below_drew (below_alloc (below_alloc HB1.out _) _)⟩⟩
  case rest =>
    obtain ⟨B, rfl, HI⟩ := hcut
    clear c10 HI1 HB1
    have rn := (cell_of_row wc B 0 _ _ _ HI.out.1).trans rfl
    have rh := (cell_of_row wc B 1 _ _ _ HI.out.1).trans rfl
    have ia := (cell_of_row wc w.heap.size 1 _ _ _ HI.out.2.1).trans rfl
    have ib := (cell_of_row wc w.heap.size 2 _ _ _ HI.out.2.1).trans rfl
    have il := (cell_of_row wc w.heap.size 3 _ _ _ HI.out.2.1).trans rfl
    replace rn : wc.cell? ⟨B, 0, none⟩ = some (.string (nameAt k)) := rn
    replace rh : wc.cell? ⟨B, 1, none⟩ = some (.int .i64 1) := rh
    replace ia : wc.cell? ⟨w.heap.size, 1, none⟩ = some (.int .i64 a) := ia
    replace ib : wc.cell? ⟨w.heap.size, 2, none⟩ = some (.int .i64 0) := ib
    replace il : wc.cell? ⟨w.heap.size, 3, none⟩ = some (.slice A n c) := il
    have t1 : (bits BinOp.and .i64 1 1 != 0) = true := by kernel_rfl
    have t2 : (bits BinOp.and .i64 1 2 != 0) = false := by kernel_rfl
    have t4 : (bits BinOp.and .i64 1 4 == 0) = true := by kernel_rfl
    go_wp2_with (first | ((with_reducible refine gate_builtin (b := .append) (xs := #[.tmp 18, .tmp 21]) rfl ?_); at_builtin; refine Kd.R_append (Kd.int .i64) (w0 := wc) wc.heap.size rfl (.tmp 18) (.tmp 21) 26 3 (.int .i64 0) 8 rfl Tryd.underlying26 info3 rfl (by decide) (by omega) (.slice none 0 0) ([] : List Int) a [.int .i64 a] (fun _ => True) (fun _ => False) rfl rfl ?aP (fun _ hk => hk.elim) ?aF ?aO ?aB ?aS ?aL ?_; (case aP => exact rfl); (case aB => exact Below.refl _ _); (case aF => exact (fun _ _ => trivial)); (case aO => exact Kd.R_nil _ _ _ _ _); (case aS => exact Nat.le_refl _); (case aL => simp); intro v6 w6 ho hb hg_ hat_; clear hg_ hat_; have HO6 : Aside0 (Kd.R (Kd.int .i64) 3 w6 wc.heap.size (fun _ => True) v6 [a]) := ⟨ho⟩; have HB6 := Aside0.mk hb; have rn6 := pw_cell_below hb rn; have rh6 := pw_cell_below hb rh; have ib6 := pw_cell_below hb ib; have il6 := pw_cell_below hb il; clear ho hb))
    go_ret2
    exact ⟨rfl, below_then HI.out.2.2 HI.out.2.2.size HB6.out⟩
set_option maxRecDepth 100000 in
set_option maxHeartbeats 4000000 in
theorem insno_3l (k : Nat) (a b : Int) (A : Option Addr) (c : Nat) (n : Nat) (w : World) (h1 : 1 ≤ k) (h2 : k ≤ 27) (hn : (nameAt k).toList.isEmpty = false) (hh : hasAt k = 3) (hbad : 0 < n) :
    Calls Tryd.prog 39 #[.agg #[.int .i64 k, .int .i64 a, .int .i64 b, .slice A n c]] w fun e w' => e = .returned (.tuple #[.string ⟨#[]⟩, .bool false]) ∧ Below w.heap.size w w' := by
  have hix := fun W => index_at W k (by omega)
  rw [hh] at hix
  have hw : ∀ (o : Obj) (W : World), Below (w.alloc o).heap.size (w.alloc o) W → W.heap[w.heap.size]? = some o := fun o W hb => (hb.block w.heap.size (by simp)).trans (heap_alloc_new w o)
  clear hh
  have q1 : decide ((n : Int) > 0) = true := by simpa using hbad
  have q2 : decide (0 < (n : Int)) = true := by simpa using hbad
  go_enter Tryd.func39, Tryd.ntmps39
  go_wp2_with (go_at_call 10; refine (name_in k _ h1 h2).mono ?_; rintro e w1 ⟨rfl, hb1⟩; have HB1 := Aside0.mk ((below_alloc (Below.refl _ w) _).trans (hb1.mono (by simp))); have HI1 := Aside0.mk (hw _ _ hb1); clear hb1)
  have c10 := cell_of_row w1 w.heap.size 0 _ _ _ HI1.out
  replace c10 : w1.cell? ⟨w.heap.size, 0, none⟩ = some (.int .i64 k) := c10
  clear hw
  go_cut [4] (fun v4 wc => ∃ B, v4 = .pointer (some ⟨B, 0, none⟩) ∧ Aside0 (InsAt k a b A n c 3 w B wc))
  case first =>
    have c11 : ∀ o : Obj, (w1.alloc o).cell? ⟨w.heap.size, 0, none⟩ = some (.int .i64 k) := fun o => pw_cell_below (below_alloc (Below.refl _ w1) o) c10
    have c12 : ∀ o o' : Obj, ((w1.alloc o).alloc o').cell? ⟨w.heap.size, 0, none⟩ = some (.int .i64 k) := fun o o' => pw_cell_below (below_alloc (below_alloc (Below.refl _ w1) o) o') c10
    go_region_with (go_at_call 31; refine (table_any _).mono ?_; rintro e w2 ⟨rfl, rfl⟩)
    all_goals go_wp2_with (fail)
    all_goals go_meet
    all_goals first
      | exact ⟨_, rfl, ⟨heap_second w1 _ _, heap_keep HI1.out (below_drew (below_alloc (below_alloc (Below.refl _ _) _) _)), below_drew (below_alloc (below_alloc HB1.out _) _)⟩⟩
      | exact ⟨_, rfl, ⟨heap_keep (heap_alloc_new w1 _) (below_drew (below_alloc (Below.refl _ _) _)), heap_keep HI1.out (below_drew (below_alloc (below_alloc (Below.refl _ _) _) _)), below_drew (below_alloc (below_alloc HB1.out _) _)⟩⟩
  case rest =>
    obtain ⟨B, rfl, HI⟩ := hcut
    clear c10 HI1 HB1
    have rn := (cell_of_row wc B 0 _ _ _ HI.out.1).trans rfl
    have rh := (cell_of_row wc B 1 _ _ _ HI.out.1).trans rfl
    have ia := (cell_of_row wc w.heap.size 1 _ _ _ HI.out.2.1).trans rfl
    have ib := (cell_of_row wc w.heap.size 2 _ _ _ HI.out.2.1).trans rfl
    have il := (cell_of_row wc w.heap.size 3 _ _ _ HI.out.2.1).trans rfl
    replace rn : wc.cell? ⟨B, 0, none⟩ = some (.string (nameAt k)) := rn
    replace rh : wc.cell? ⟨B, 1, none⟩ = some (.int .i64 3) := rh
    replace ia : wc.cell? ⟨w.heap.size, 1, none⟩ = some (.int .i64 a) := ia
    replace ib : wc.cell? ⟨w.heap.size, 2, none⟩ = some (.int .i64 b) := ib
    replace il : wc.cell? ⟨w.heap.size, 3, none⟩ = some (.slice A n c) := il
    have t1 : (bits BinOp.and .i64 3 1 != 0) = true := by kernel_rfl
    have t2 : (bits BinOp.and .i64 3 2 != 0) = true := by kernel_rfl
    have t4 : (bits BinOp.and .i64 3 4 == 0) = true := by kernel_rfl
    go_wp2_with (first | ((with_reducible refine gate_builtin (b := .append) (xs := #[.tmp 18, .tmp 21]) rfl ?_); at_builtin; refine Kd.R_append (Kd.int .i64) (w0 := wc) wc.heap.size rfl (.tmp 18) (.tmp 21) 26 3 (.int .i64 0) 8 rfl Tryd.underlying26 info3 rfl (by decide) (by omega) (.slice none 0 0) ([] : List Int) a [.int .i64 a] (fun _ => True) (fun _ => False) rfl rfl ?aP (fun _ hk => hk.elim) ?aF ?aO ?aB ?aS ?aL ?_; (case aP => exact rfl); (case aB => exact Below.refl _ _); (case aF => exact (fun _ _ => trivial)); (case aO => exact Kd.R_nil _ _ _ _ _); (case aS => exact Nat.le_refl _); (case aL => simp); intro v6 w6 ho hb hg_ hat_; clear hg_ hat_; have HO6 : Aside0 (Kd.R (Kd.int .i64) 3 w6 wc.heap.size (fun _ => True) v6 [a]) := ⟨ho⟩; have HB6 := Aside0.mk hb; have rn6 := pw_cell_below hb rn; have rh6 := pw_cell_below hb rh; have ib6 := pw_cell_below hb ib; have il6 := pw_cell_below hb il; clear ho hb) | ((with_reducible refine gate_builtin (b := .append) (xs := #[.tmp 30, .tmp 33]) rfl ?_); at_builtin; refine Kd.R_append (Kd.int .i64) (w0 := wc) wc.heap.size rfl (.tmp 30) (.tmp 33) 26 3 (.int .i64 0) 8 rfl Tryd.underlying26 info3 rfl (by decide) (by omega) v6 [a] b [.int .i64 b] (fun _ => True) (fun _ => False) rfl rfl ?aP (fun _ hk => hk.elim) ?aF ?aO ?aB ?aS ?aL ?_; (case aP => exact rfl); (case aB => exact HB6.out); (case aF => exact (fun _ _ => trivial)); (case aO => exact HO6.out); (case aS => exact HB6.out.size); (case aL => simp); intro v7 w7 ho hb hg_ hat_; clear hg_ hat_; have HO7 : Aside0 (Kd.R (Kd.int .i64) 3 w7 wc.heap.size (fun _ => True) v7 [a, b]) := ⟨ho⟩; have HB7 := Aside0.mk hb; have rn7 := pw_cell_below hb rn; have rh7 := pw_cell_below hb rh; have ib7 := pw_cell_below hb ib; have il7 := pw_cell_below hb il; clear ho hb))
    go_ret2
    exact ⟨rfl, below_then HI.out.2.2 HI.out.2.2.size HB7.out⟩
set_option maxRecDepth 100000 in
set_option maxHeartbeats 4000000 in
theorem insno_4a (k : Nat) (a b : Int) (A : Option Addr) (c : Nat) (n : Nat) (w : World) (h1 : 1 ≤ k) (h2 : k ≤ 27) (hn : (nameAt k).toList.isEmpty = false) (hh : hasAt k = 4) (hbad : a ≠ 0) :
    Calls Tryd.prog 39 #[.agg #[.int .i64 k, .int .i64 a, .int .i64 b, .slice A n c]] w fun e w' => e = .returned (.tuple #[.string ⟨#[]⟩, .bool false]) ∧ Below w.heap.size w w' := by
  have hix := fun W => index_at W k (by omega)
  rw [hh] at hix
  have hw : ∀ (o : Obj) (W : World), Below (w.alloc o).heap.size (w.alloc o) W → W.heap[w.heap.size]? = some o := fun o W hb => (hb.block w.heap.size (by simp)).trans (heap_alloc_new w o)
  clear hh
  have q1 : (a == 0) = false := by simpa using hbad
  have q2 : (a != 0) = true := by simpa using hbad
  go_enter Tryd.func39, Tryd.ntmps39
  go_wp2_with (go_at_call 10; refine (name_in k _ h1 h2).mono ?_; rintro e w1 ⟨rfl, hb1⟩; have HB1 := Aside0.mk ((below_alloc (Below.refl _ w) _).trans (hb1.mono (by simp))); have HI1 := Aside0.mk (hw _ _ hb1); clear hb1)
  have c10 := cell_of_row w1 w.heap.size 0 _ _ _ HI1.out
  replace c10 : w1.cell? ⟨w.heap.size, 0, none⟩ = some (.int .i64 k) := c10
  clear hw
  go_cut [4] (fun v4 wc => ∃ B, v4 = .pointer (some ⟨B, 0, none⟩) ∧ Aside0 (InsAt k a b A n c 4 w B wc))
  case first =>
    have c11 : ∀ o : Obj, (w1.alloc o).cell? ⟨w.heap.size, 0, none⟩ = some (.int .i64 k) := fun o => pw_cell_below (below_alloc (Below.refl _ w1) o) c10
    have c12 : ∀ o o' : Obj, ((w1.alloc o).alloc o').cell? ⟨w.heap.size, 0, none⟩ = some (.int .i64 k) := fun o o' => pw_cell_below (below_alloc (below_alloc (Below.refl _ w1) o) o') c10
    go_region_with (go_at_call 31; refine (table_any _).mono ?_; rintro e w2 ⟨rfl, rfl⟩)
    all_goals go_wp2_with (fail)
    all_goals go_meet
    all_goals first
      | exact ⟨_, rfl, ⟨heap_second w1 _ _, heap_keep HI1.out (below_drew (below_alloc (below_alloc (Below.refl _ _) _) _)), below_drew (below_alloc (below_alloc HB1.out _) _)⟩⟩
      | exact ⟨_, rfl, ⟨heap_keep (heap_alloc_new w1 _) (below_drew (below_alloc (Below.refl _ _) _)), heap_keep HI1.out (below_drew (below_alloc (below_alloc (Below.refl _ _) _) _)), below_drew (below_alloc (below_alloc HB1.out _) _)⟩⟩
  case rest =>
    obtain ⟨B, rfl, HI⟩ := hcut
    clear c10 HI1 HB1
    have rn := (cell_of_row wc B 0 _ _ _ HI.out.1).trans rfl
    have rh := (cell_of_row wc B 1 _ _ _ HI.out.1).trans rfl
    have ia := (cell_of_row wc w.heap.size 1 _ _ _ HI.out.2.1).trans rfl
    have ib := (cell_of_row wc w.heap.size 2 _ _ _ HI.out.2.1).trans rfl
    have il := (cell_of_row wc w.heap.size 3 _ _ _ HI.out.2.1).trans rfl
    replace rn : wc.cell? ⟨B, 0, none⟩ = some (.string (nameAt k)) := rn
    replace rh : wc.cell? ⟨B, 1, none⟩ = some (.int .i64 4) := rh
    replace ia : wc.cell? ⟨w.heap.size, 1, none⟩ = some (.int .i64 a) := ia
    replace ib : wc.cell? ⟨w.heap.size, 2, none⟩ = some (.int .i64 b) := ib
    replace il : wc.cell? ⟨w.heap.size, 3, none⟩ = some (.slice A n c) := il
    have t1 : (bits BinOp.and .i64 4 1 != 0) = false := by kernel_rfl
    have t2 : (bits BinOp.and .i64 4 2 != 0) = false := by kernel_rfl
    have t4 : (bits BinOp.and .i64 4 4 == 0) = false := by kernel_rfl
    go_wp2_with (fail)
    go_ret2
    exact ⟨rfl, HI.out.2.2⟩
set_option maxRecDepth 100000 in
set_option maxHeartbeats 4000000 in
theorem insno_4b (k : Nat) (a b : Int) (A : Option Addr) (c : Nat) (n : Nat) (w : World) (h1 : 1 ≤ k) (h2 : k ≤ 27) (hn : (nameAt k).toList.isEmpty = false) (hh : hasAt k = 4) (hbad : a = 0 ∧ b ≠ 0) :
    Calls Tryd.prog 39 #[.agg #[.int .i64 k, .int .i64 a, .int .i64 b, .slice A n c]] w fun e w' => e = .returned (.tuple #[.string ⟨#[]⟩, .bool false]) ∧ Below w.heap.size w w' := by
  have hix := fun W => index_at W k (by omega)
  rw [hh] at hix
  have hw : ∀ (o : Obj) (W : World), Below (w.alloc o).heap.size (w.alloc o) W → W.heap[w.heap.size]? = some o := fun o W hb => (hb.block w.heap.size (by simp)).trans (heap_alloc_new w o)
  clear hh
  obtain ⟨rfl, hbad⟩ := hbad
  have q1 : (b == 0) = false := by simpa using hbad
  have q2 : (b != 0) = true := by simpa using hbad
  go_enter Tryd.func39, Tryd.ntmps39
  go_wp2_with (go_at_call 10; refine (name_in k _ h1 h2).mono ?_; rintro e w1 ⟨rfl, hb1⟩; have HB1 := Aside0.mk ((below_alloc (Below.refl _ w) _).trans (hb1.mono (by simp))); have HI1 := Aside0.mk (hw _ _ hb1); clear hb1)
  have c10 := cell_of_row w1 w.heap.size 0 _ _ _ HI1.out
  replace c10 : w1.cell? ⟨w.heap.size, 0, none⟩ = some (.int .i64 k) := c10
  clear hw
  go_cut [4] (fun v4 wc => ∃ B, v4 = .pointer (some ⟨B, 0, none⟩) ∧ Aside0 (InsAt k 0 b A n c 4 w B wc))
  case first =>
    have c11 : ∀ o : Obj, (w1.alloc o).cell? ⟨w.heap.size, 0, none⟩ = some (.int .i64 k) := fun o => pw_cell_below (below_alloc (Below.refl _ w1) o) c10
    have c12 : ∀ o o' : Obj, ((w1.alloc o).alloc o').cell? ⟨w.heap.size, 0, none⟩ = some (.int .i64 k) := fun o o' => pw_cell_below (below_alloc (below_alloc (Below.refl _ w1) o) o') c10
    go_region_with (go_at_call 31; refine (table_any _).mono ?_; rintro e w2 ⟨rfl, rfl⟩)
    all_goals go_wp2_with (fail)
    all_goals go_meet
    all_goals first
      | exact ⟨_, rfl, ⟨heap_second w1 _ _, heap_keep HI1.out (below_drew (below_alloc (below_alloc (Below.refl _ _) _) _)), below_drew (below_alloc (below_alloc HB1.out _) _)⟩⟩
      | exact ⟨_, rfl, ⟨heap_keep (heap_alloc_new w1 _) (below_drew (below_alloc (Below.refl _ _) _)), heap_keep HI1.out (below_drew (below_alloc (below_alloc (Below.refl _ _) _) _)), below_drew (below_alloc (below_alloc HB1.out _) _)⟩⟩
  case rest =>
    obtain ⟨B, rfl, HI⟩ := hcut
    clear c10 HI1 HB1
    have rn := (cell_of_row wc B 0 _ _ _ HI.out.1).trans rfl
    have rh := (cell_of_row wc B 1 _ _ _ HI.out.1).trans rfl
    have ia := (cell_of_row wc w.heap.size 1 _ _ _ HI.out.2.1).trans rfl
    have ib := (cell_of_row wc w.heap.size 2 _ _ _ HI.out.2.1).trans rfl
    have il := (cell_of_row wc w.heap.size 3 _ _ _ HI.out.2.1).trans rfl
    replace rn : wc.cell? ⟨B, 0, none⟩ = some (.string (nameAt k)) := rn
    replace rh : wc.cell? ⟨B, 1, none⟩ = some (.int .i64 4) := rh
    replace ia : wc.cell? ⟨w.heap.size, 1, none⟩ = some (.int .i64 0) := ia
    replace ib : wc.cell? ⟨w.heap.size, 2, none⟩ = some (.int .i64 b) := ib
    replace il : wc.cell? ⟨w.heap.size, 3, none⟩ = some (.slice A n c) := il
    have t1 : (bits BinOp.and .i64 4 1 != 0) = false := by kernel_rfl
    have t2 : (bits BinOp.and .i64 4 2 != 0) = false := by kernel_rfl
    have t4 : (bits BinOp.and .i64 4 4 == 0) = false := by kernel_rfl
    go_wp2_with (fail)
    go_ret2
    exact ⟨rfl, HI.out.2.2⟩
set_option maxRecDepth 100000 in
set_option maxHeartbeats 4000000 in
theorem insno_5b (k : Nat) (a b : Int) (A : Option Addr) (c : Nat) (n : Nat) (w : World) (h1 : 1 ≤ k) (h2 : k ≤ 27) (hn : (nameAt k).toList.isEmpty = false) (hh : hasAt k = 5) (hbad : b ≠ 0) :
    Calls Tryd.prog 39 #[.agg #[.int .i64 k, .int .i64 a, .int .i64 b, .slice A n c]] w fun e w' => e = .returned (.tuple #[.string ⟨#[]⟩, .bool false]) ∧ Below w.heap.size w w' := by
  have hix := fun W => index_at W k (by omega)
  rw [hh] at hix
  have hw : ∀ (o : Obj) (W : World), Below (w.alloc o).heap.size (w.alloc o) W → W.heap[w.heap.size]? = some o := fun o W hb => (hb.block w.heap.size (by simp)).trans (heap_alloc_new w o)
  clear hh
  have q1 : (b == 0) = false := by simpa using hbad
  have q2 : (b != 0) = true := by simpa using hbad
  go_enter Tryd.func39, Tryd.ntmps39
  go_wp2_with (go_at_call 10; refine (name_in k _ h1 h2).mono ?_; rintro e w1 ⟨rfl, hb1⟩; have HB1 := Aside0.mk ((below_alloc (Below.refl _ w) _).trans (hb1.mono (by simp))); have HI1 := Aside0.mk (hw _ _ hb1); clear hb1)
  have c10 := cell_of_row w1 w.heap.size 0 _ _ _ HI1.out
  replace c10 : w1.cell? ⟨w.heap.size, 0, none⟩ = some (.int .i64 k) := c10
  clear hw
  go_cut [4] (fun v4 wc => ∃ B, v4 = .pointer (some ⟨B, 0, none⟩) ∧ Aside0 (InsAt k a b A n c 5 w B wc))
  case first =>
    have c11 : ∀ o : Obj, (w1.alloc o).cell? ⟨w.heap.size, 0, none⟩ = some (.int .i64 k) := fun o => pw_cell_below (below_alloc (Below.refl _ w1) o) c10
    have c12 : ∀ o o' : Obj, ((w1.alloc o).alloc o').cell? ⟨w.heap.size, 0, none⟩ = some (.int .i64 k) := fun o o' => pw_cell_below (below_alloc (below_alloc (Below.refl _ w1) o) o') c10
    go_region_with (go_at_call 31; refine (table_any _).mono ?_; rintro e w2 ⟨rfl, rfl⟩)
    all_goals go_wp2_with (fail)
    all_goals go_meet
    all_goals first
      | exact ⟨_, rfl, ⟨heap_second w1 _ _, heap_keep HI1.out (below_drew (below_alloc (below_alloc (Below.refl _ _) _) _)), below_drew (below_alloc (below_alloc HB1.out _) _)⟩⟩
      | exact ⟨_, rfl, ⟨heap_keep (heap_alloc_new w1 _) (below_drew (below_alloc (Below.refl _ _) _)), heap_keep HI1.out (below_drew (below_alloc (below_alloc (Below.refl _ _) _) _)), below_drew (below_alloc (below_alloc HB1.out _) _)⟩⟩
  case rest =>
    obtain ⟨B, rfl, HI⟩ := hcut
    clear c10 HI1 HB1
    have rn := (cell_of_row wc B 0 _ _ _ HI.out.1).trans rfl
    have rh := (cell_of_row wc B 1 _ _ _ HI.out.1).trans rfl
    have ia := (cell_of_row wc w.heap.size 1 _ _ _ HI.out.2.1).trans rfl
    have ib := (cell_of_row wc w.heap.size 2 _ _ _ HI.out.2.1).trans rfl
    have il := (cell_of_row wc w.heap.size 3 _ _ _ HI.out.2.1).trans rfl
    replace rn : wc.cell? ⟨B, 0, none⟩ = some (.string (nameAt k)) := rn
    replace rh : wc.cell? ⟨B, 1, none⟩ = some (.int .i64 5) := rh
    replace ia : wc.cell? ⟨w.heap.size, 1, none⟩ = some (.int .i64 a) := ia
    replace ib : wc.cell? ⟨w.heap.size, 2, none⟩ = some (.int .i64 b) := ib
    replace il : wc.cell? ⟨w.heap.size, 3, none⟩ = some (.slice A n c) := il
    have t1 : (bits BinOp.and .i64 5 1 != 0) = true := by kernel_rfl
    have t2 : (bits BinOp.and .i64 5 2 != 0) = false := by kernel_rfl
    have t4 : (bits BinOp.and .i64 5 4 == 0) = false := by kernel_rfl
    go_wp2_with (first | ((with_reducible refine gate_builtin (b := .append) (xs := #[.tmp 18, .tmp 21]) rfl ?_); at_builtin; refine Kd.R_append (Kd.int .i64) (w0 := wc) wc.heap.size rfl (.tmp 18) (.tmp 21) 26 3 (.int .i64 0) 8 rfl Tryd.underlying26 info3 rfl (by decide) (by omega) (.slice none 0 0) ([] : List Int) a [.int .i64 a] (fun _ => True) (fun _ => False) rfl rfl ?aP (fun _ hk => hk.elim) ?aF ?aO ?aB ?aS ?aL ?_; (case aP => exact rfl); (case aB => exact Below.refl _ _); (case aF => exact (fun _ _ => trivial)); (case aO => exact Kd.R_nil _ _ _ _ _); (case aS => exact Nat.le_refl _); (case aL => simp); intro v6 w6 ho hb hg_ hat_; clear hg_ hat_; have HO6 : Aside0 (Kd.R (Kd.int .i64) 3 w6 wc.heap.size (fun _ => True) v6 [a]) := ⟨ho⟩; have HB6 := Aside0.mk hb; have rn6 := pw_cell_below hb rn; have rh6 := pw_cell_below hb rh; have ib6 := pw_cell_below hb ib; have il6 := pw_cell_below hb il; clear ho hb))
    go_ret2
    exact ⟨rfl, below_then HI.out.2.2 HI.out.2.2.size HB6.out⟩
set_option maxRecDepth 100000 in
set_option maxHeartbeats 1000000 in
theorem insno_out (k : Int) (a b : Int) (A : Option Addr) (c : Nat) (n : Nat) (w : World) (h : k < 1 ∨ 27 < k) :
    Calls Tryd.prog 39 #[.agg #[.int .i64 k, .int .i64 a, .int .i64 b, .slice A n c]] w fun e w' => e = .returned (.tuple #[.string ⟨#[]⟩, .bool false]) ∧ Below w.heap.size w w' := by
  go_enter Tryd.func39, Tryd.ntmps39
  go_wp2_with (go_at_call 10; refine (name_out k _ h).mono ?_; rintro e w1 ⟨rfl, hb1⟩; have HB1 := Aside0.mk ((below_alloc (Below.refl _ w) _).trans (hb1.mono (by simp))); clear hb1)
  go_ret2
  exact ⟨rfl, HB1.out⟩
end Go.Proofs.YtfkfgjmhcfagkaaDoor.Given
end
section
namespace Go.Proofs.YtfkfgjmhcfagkaaDoor.Given
open Go.RowKit Go.Proofs.YtfkfgjmhcfagkaaDoorW.PrintWords Go.Proofs.YtfkfgjmhcfagkaaDoor.Print
set_option linter.unusedVariables false
set_option linter.unusedSimpArgs false
def flagOf (b : Bool) : Int := if b then 1 else 0
theorem flag_any (b : Bool) (w : World) : Calls Tryd.prog 38 #[.bool b] w fun e w' => e = .returned (.int .i64 (flagOf b)) ∧ w' = w := by
  cases b
  · go_enter Tryd.func38, Tryd.ntmps38
    go_wp2
    go_ret
    exact ⟨rfl, rfl⟩
  · go_enter Tryd.func38, Tryd.ntmps38
    go_wp2
    go_ret
    exact ⟨rfl, rfl⟩
def hA (k : Nat) : Bool := hasAt k == 1 || hasAt k == 3 || hasAt k == 5
def hB (k : Nat) : Bool := hasAt k == 3
def hL (k : Nat) : Bool := hasAt k == 4 || hasAt k == 5
def cleanIns (op a b : Int) (l : List Int) : Bool := decide (1 ≤ op) && decide (op ≤ 27) && (hA op.toNat || a == 0) && (hB op.toNat || b == 0) && (hL op.toNat || l.length == 0)
def numsOf (k : Nat) (a b : Int) : List Int := (if hA k then [a] else []) ++ (if hB k then [b] else [])
def insLine (op a b : Int) (l : List Int) : ByteArray := lineOf (nameAt op.toNat) (numsOf op.toNat a b ++ l)
theorem rows_all : ∀ k : Fin 28, 1 ≤ k.val → (nameAt k.val).toList.isEmpty = false ∧ (hasAt k.val = 0 ∨ hasAt k.val = 1 ∨ hasAt k.val = 3 ∨ hasAt k.val = 4 ∨ hasAt k.val = 5) := by decide +kernel
theorem rows_at (k : Nat) (h1 : 1 ≤ k) (h2 : k ≤ 27) : (nameAt k).toList.isEmpty = false ∧ (hasAt k = 0 ∨ hasAt k = 1 ∨ hasAt k = 3 ∨ hasAt k = 4 ∨ hasAt k = 5) := rows_all ⟨k, by omega⟩ h1
def insOf (op a b : Int) (l : List Int) : ByteArray × Bool := if cleanIns op a b l then (insLine op a b l, true) else (⟨#[]⟩, false)
theorem ins_any (op a b : Int) (A : Option Addr) (c : Nat) (l : List Int) (w : World) (hr : Kd.C (Kd.int .i64) w A l.length l) (hl : ∀ n ∈ l, (Lit.int .i64 n).wf = true) (ha : (Lit.int .i64 a).wf = true) (hb : (Lit.int .i64 b).wf = true) (hL' : LW w) (hlen : l.length ≤ 100000000000)
    (hsz : (insLine op a b l).size ≤ 9223372036854775807) :
    Calls Tryd.prog 39 #[.agg #[.int .i64 op, .int .i64 a, .int .i64 b, .slice A l.length c]] w fun e w' => e = .returned (.tuple #[.string (insOf op a b l).1, .bool (insOf op a b l).2]) ∧ Below w.heap.size w w' := by
  by_cases hop : 1 ≤ op ∧ op ≤ 27
  · obtain ⟨k, rfl⟩ : ∃ k : Nat, op = k := ⟨op.toNat, by omega⟩
    have h1 : 1 ≤ k := by omega
    have h2 : k ≤ 27 := by omega
    have q1 : decide ((1 : Int) ≤ k) = true := decide_eq_true hop.1
    have q2 : decide ((k : Int) ≤ 27) = true := decide_eq_true hop.2
    obtain ⟨hn, hh⟩ := rows_at k h1 h2
    have hsz' : (wordsOf (nameAt k) (numsOf k a b ++ l)).size + 1 ≤ 9223372036854775807 := by
      have : (insLine k a b l).size = (wordsOf (nameAt k) (numsOf k a b ++ l)).size + 1 := by
        simp only [insLine, lineOf, Int.toNat_natCast, size_append]
        rfl
      omega
    rcases hh with hh | hh | hh | hh | hh
    · have eA : hA k = false := by simp [hA, hh]
      have eB : hB k = false := by simp [hB, hh]
      have eL : hL k = false := by simp [hL, hh]
      simp only [numsOf, eA, eB, Bool.false_eq_true, if_false, List.append_nil] at hsz'
      simp only [insOf, cleanIns, insLine, numsOf, Int.toNat_natCast, q1, q2, eA, eB, eL, Bool.true_and, Bool.false_or, Bool.false_eq_true, if_false, List.append_nil]
      by_cases qa : a = 0
      · by_cases qb : b = 0
        · by_cases ql : l.length = 0
          · rw [if_pos (by simp [qa, qb, ql])]
            exact ins_0 k a b A c l w h1 h2 hn hh hr hl ha hb hL' hlen hsz' ⟨qa, qb, ql⟩
          · rw [if_neg (by simpa using fun _ _ => ql)]
            exact insno_0l k a b A c l.length w h1 h2 hn hh ⟨qa, qb, by omega⟩
        · rw [if_neg (by simp [qb])]
          exact insno_0b k a b A c l.length w h1 h2 hn hh ⟨qa, qb⟩
      · rw [if_neg (by simp [qa])]
        exact insno_0a k a b A c l.length w h1 h2 hn hh qa
    · have eA : hA k = true := by simp [hA, hh]
      have eB : hB k = false := by simp [hB, hh]
      have eL : hL k = false := by simp [hL, hh]
      simp only [numsOf, eA, eB, Bool.false_eq_true, if_false, if_true, List.append_nil] at hsz'
      simp only [insOf, cleanIns, insLine, numsOf, Int.toNat_natCast, q1, q2, eA, eB, eL, Bool.true_and, Bool.true_or, Bool.false_or, Bool.false_eq_true, if_false, if_true, List.append_nil]
      by_cases qb : b = 0
      · by_cases ql : l.length = 0
        · rw [if_pos (by simp [qb, ql])]
          exact ins_1 k a b A c l w h1 h2 hn hh hr hl ha hb hL' hlen hsz' ⟨qb, ql⟩
        · rw [if_neg (by simpa using fun _ => ql)]
          exact insno_1l k a b A c l.length w h1 h2 hn hh ⟨qb, by omega⟩
      · rw [if_neg (by simp [qb])]
        exact insno_1b k a b A c l.length w h1 h2 hn hh qb
    · have eA : hA k = true := by simp [hA, hh]
      have eB : hB k = true := by simp [hB, hh]
      have eL : hL k = false := by simp [hL, hh]
      simp only [numsOf, eA, eB, Bool.false_eq_true, if_false, if_true, List.singleton_append] at hsz'
      simp only [insOf, cleanIns, insLine, numsOf, Int.toNat_natCast, q1, q2, eA, eB, eL, Bool.true_and, Bool.true_or, Bool.false_or, Bool.false_eq_true, if_false, if_true, List.singleton_append]
      by_cases ql : l.length = 0
      · rw [if_pos (by simp [ql])]
        exact ins_3 k a b A c l w h1 h2 hn hh hr hl ha hb hL' hlen hsz' ql
      · rw [if_neg (by simpa using ql)]
        exact insno_3l k a b A c l.length w h1 h2 hn hh (by omega)
    · have eA : hA k = false := by simp [hA, hh]
      have eB : hB k = false := by simp [hB, hh]
      have eL : hL k = true := by simp [hL, hh]
      simp only [numsOf, eA, eB, Bool.false_eq_true, if_false, List.append_nil] at hsz'
      simp only [insOf, cleanIns, insLine, numsOf, Int.toNat_natCast, q1, q2, eA, eB, eL, Bool.true_and, Bool.true_or, Bool.and_true, Bool.false_or, Bool.false_eq_true, if_false, List.append_nil]
      by_cases qa : a = 0
      · by_cases qb : b = 0
        · rw [if_pos (by simp [qa, qb])]
          exact ins_4 k a b A c l w h1 h2 hn hh hr hl ha hb hL' hlen hsz' ⟨qa, qb⟩
        · rw [if_neg (by simp [qb])]
          exact insno_4b k a b A c l.length w h1 h2 hn hh ⟨qa, qb⟩
      · rw [if_neg (by simp [qa])]
        exact insno_4a k a b A c l.length w h1 h2 hn hh qa
    · have eA : hA k = true := by simp [hA, hh]
      have eB : hB k = false := by simp [hB, hh]
      have eL : hL k = true := by simp [hL, hh]
      simp only [numsOf, eA, eB, Bool.false_eq_true, if_false, if_true, List.append_nil] at hsz'
      simp only [insOf, cleanIns, insLine, numsOf, Int.toNat_natCast, q1, q2, eA, eB, eL, Bool.true_and, Bool.true_or, Bool.and_true, Bool.false_or, Bool.false_eq_true, if_false, if_true, List.append_nil]
      by_cases qb : b = 0
      · rw [if_pos (by simp [qb])]
        exact ins_5 k a b A c l w h1 h2 hn hh hr hl ha hb hL' hlen hsz' qb
      · rw [if_neg (by simp [qb])]
        exact insno_5b k a b A c l.length w h1 h2 hn hh qb
  · have hc : cleanIns op a b l = false := by
      unfold cleanIns
      by_cases q : 1 ≤ op
      · have : ¬ op ≤ 27 := fun h => hop ⟨q, h⟩
        simp [this]
      · simp [q]
    unfold insOf
    rw [hc]
    exact insno_out op a b A c l.length w (by omega)
end Go.Proofs.YtfkfgjmhcfagkaaDoor.Given
end
section
namespace Go.Proofs.YtfkfgjmhcfagkaaDoor.Given
open Go.RowKit Go.Proofs.YtfkfgjmhcfagkaaDoorW.PrintWords Go.Proofs.YtfkfgjmhcfagkaaDoorW.PrintLast Go.Proofs.YtfkfgjmhcfagkaaDoorW.PrintMore Go.Proofs.YtfkfgjmhcfagkaaDoor.Print
set_option linter.unusedVariables false
set_option linter.unusedSimpArgs false
def typeWord : ByteArray := ⟨#[116, 121, 112, 101]⟩
def progWord : ByteArray := ⟨#[112, 114, 111, 103]⟩
def typeLine (t : S54) : ByteArray := lineOf typeWord ([t.f0, flagOf t.f2] ++ t.f1)
def progLine (p : S57) : ByteArray := lineOf progWord [p.f0, p.f1, p.f2, flagOf p.f3]
def typesText (acc : ByteArray) (l : List S54) : ByteArray := l.foldl (fun acc t => acc ++ typeLine t) acc
def codeText (acc : ByteArray) (l : List S28) : ByteArray := l.foldl (fun acc x => acc ++ insLine x.f0 x.f1 x.f2 x.f3) acc
def progText (acc : ByteArray) (p : S57) : ByteArray := codeText (acc ++ progLine p) p.f4
def progsText (acc : ByteArray) (l : List S57) : ByteArray := l.foldl progText acc
def cleanCode (l : List S28) : Bool := l.all fun x => cleanIns x.f0 x.f1 x.f2 x.f3
def cleanProgs (l : List S57) : Bool := l.all fun p => cleanCode p.f4
def fullText (ps : List S57) (ts : List S54) : ByteArray := progsText (typesText ⟨#[]⟩ ts) ps
def wfI (x : S28) : Prop := (∀ n ∈ x.f3, (Lit.int .i64 n).wf = true) ∧ (Lit.int .i64 x.f1).wf = true ∧ (Lit.int .i64 x.f2).wf = true ∧ x.f3.length ≤ 100000000000
def wfT (t : S54) : Prop := (∀ n ∈ t.f1, (Lit.int .i64 n).wf = true) ∧ (Lit.int .i64 t.f0).wf = true ∧ t.f1.length ≤ 100000000000
def wfP (p : S57) : Prop := (Lit.int .i64 p.f0).wf = true ∧ (Lit.int .i64 p.f1).wf = true ∧ (Lit.int .i64 p.f2).wf = true ∧ ∀ x ∈ p.f4, wfI x
def printOf (ps : List S57) (ts : List S54) : ByteArray × Int := if cleanProgs ps then (fullText ps ts, 0) else (⟨#[]⟩, 80)
def P5T : Bool × List (List Nat × List Nat) := (true, [([], []), ([0], [0]), ([], []), ([2], [2]), ([3], [3]), ([1, 4], [1, 4]), ([], []), ([6], [6]), ([5, 7, 4], [5, 7]), ([8, 8], [8]), ([9, 9], [9])])
def P5B : List Nat := [0, 1, 0, 4, 12, 31, 0, 64, 255, 511, 1023]
theorem p5tab : rtab .any (opsOf Tryd.f22 5) = P5T := by kernel_rfl
theorem p5bits : waitsOk P5T.2 P5B = true := by kernel_rfl
def P10T : Bool × List (List Nat × List Nat) := (true, [([], []), ([0], [0]), ([], []), ([2], [2]), ([], []), ([4], [4]), ([], []), ([6], [6]), ([7], [7]), ([1, 3, 5, 8], [1, 3, 5, 8]), ([9, 8], [9]), ([10, 10], [10])])
def P10B : List Nat := [0, 1, 0, 4, 0, 16, 0, 64, 192, 511, 1023, 2047]
theorem p10tab : rtab .any (opsOf Tryd.f22 10) = P10T := by kernel_rfl
theorem p10bits : waitsOk P10T.2 P10B = true := by kernel_rfl
theorem fold_size {α : Type} (f : ByteArray → α → ByteArray) (hf : ∀ a x, a.size ≤ (f a x).size) : ∀ (l : List α) (a : ByteArray), a.size ≤ (l.foldl f a).size
  | [], _ => Nat.le_refl _
  | x :: l, a => Nat.le_trans (hf a x) (fold_size f hf l (f a x))
theorem fold_take {α : Type} (f : ByteArray → α → ByteArray) (l : List α) (a : ByteArray) (k : Nat) (h : k < l.length) : (l.take (k + 1)).foldl f a = f ((l.take k).foldl f a) l[k] := by
  rw [List.take_succ_eq_append_getElem h, List.foldl_append]
  rfl
theorem fold_le {α : Type} (f : ByteArray → α → ByteArray) (hf : ∀ a x, a.size ≤ (f a x).size) (l : List α) (a : ByteArray) (k : Nat) : ((l.take k).foldl f a).size ≤ (l.foldl f a).size := by
  have h : l.foldl f a = (l.drop k).foldl f ((l.take k).foldl f a) := by rw [← List.foldl_append, List.take_append_drop]
  rw [h]
  exact fold_size f hf _ _
theorem grow_app (a b : ByteArray) : a.size ≤ (a ++ b).size := by rw [size_append]; omega
theorem code_grow (a : ByteArray) (l : List S28) : a.size ≤ (codeText a l).size := fold_size _ (fun _ _ => grow_app _ _) l a
theorem prog_grow (a : ByteArray) (p : S57) : a.size ≤ (progText a p).size := Nat.le_trans (grow_app _ _) (code_grow _ _)
theorem fresh_builder (b : Nat) (w : World) (h : w.heap[b]? = some (.cells #[.pointer none, .slice none 0 0] 69 (0, 0))) : Lib.IsBuilder 69 5 b b (Lib.strCells ⟨#[]⟩) w :=
  .inl ⟨Nat.le_refl _, _, h, ⟨rfl, .inl ⟨rfl, rfl⟩⟩, by simp [Value.ownBlock]⟩
theorem ins_good (op a b : Int) (A : Option Addr) (c : Nat) (l : List Int) (w : World) (hc : cleanIns op a b l = true) (hr : Kd.C (Kd.int .i64) w A l.length l) (hl : ∀ n ∈ l, (Lit.int .i64 n).wf = true) (ha : (Lit.int .i64 a).wf = true) (hb : (Lit.int .i64 b).wf = true) (hL' : LW w) (hlen : l.length ≤ 100000000000)
    (hsz : (insLine op a b l).size ≤ 9223372036854775807) :
    Calls Tryd.prog 39 #[.agg #[.int .i64 op, .int .i64 a, .int .i64 b, .slice A l.length c]] w fun e w' => e = .returned (.tuple #[.string (insLine op a b l), .bool true]) ∧ Below w.heap.size w w' := by
  have h := ins_any op a b A c l w hr hl ha hb hL' hlen hsz
  rwa [show insOf op a b l = (insLine op a b l, true) by unfold insOf; rw [if_pos hc]] at h
theorem ins_bad (op a b : Int) (A : Option Addr) (c : Nat) (l : List Int) (w : World) (hc : cleanIns op a b l = false) (hr : Kd.C (Kd.int .i64) w A l.length l) (hl : ∀ n ∈ l, (Lit.int .i64 n).wf = true) (ha : (Lit.int .i64 a).wf = true) (hb : (Lit.int .i64 b).wf = true) (hL' : LW w) (hlen : l.length ≤ 100000000000)
    (hsz : (insLine op a b l).size ≤ 9223372036854775807) :
    Calls Tryd.prog 39 #[.agg #[.int .i64 op, .int .i64 a, .int .i64 b, .slice A l.length c]] w fun e w' => e = .returned (.tuple #[.string ⟨#[]⟩, .bool false]) ∧ Below w.heap.size w w' := by
  have h := ins_any op a b A c l w hr hl ha hb hL' hlen hsz
  rwa [show insOf op a b l = (⟨#[]⟩, false) by unfold insOf; rw [if_neg (by rw [hc]; decide)]] at h
theorem string_on (b : Nat) (acc : ByteArray) (w : World) (h : Lib.IsBuilder 69 5 b b (Lib.strCells acc) w) : Calls Tryd.prog 40 #[.pointer (some ⟨b, 0, none⟩)] w fun e w' => e = .returned (.string acc) ∧ Below b w w' := by
  have hBw : b ≤ w.heap.size := by
    rcases h with h | h
    · exact Nat.le_of_lt h.lt
    · exact Nat.le_of_lt h.lt
  have hk := Tryd.Builder_String_any b b acc.data.toList w h hBw
  have he : (⟨acc.data.toList.toArray⟩ : ByteArray) = acc := by cases acc; simp
  rwa [he] at hk
set_option maxRecDepth 100000 in
set_option maxHeartbeats 8000000 in
theorem print_any (A0 : Option Addr) (c0 : Nat) (ps : List S57) (A1 : Option Addr) (c1 : Nat) (ts : List S54) (w : World) (hp : Kd.C k57 w A0 ps.length ps) (ht : Kd.C k54 w A1 ts.length ts) (hL : LW w) (hwt : ∀ t ∈ ts, wfT t) (hwp : ∀ p ∈ ps, wfP p) (hsz : (fullText ps ts).size + 1 ≤ 140737488355328) :
    Calls Tryd.prog 22 #[.agg #[.slice A0 ps.length c0, .slice A1 ts.length c1]] w fun e w' => e = .returned (.tuple #[.string (printOf ps ts).1, .int .i64 (printOf ps ts).2]) ∧ Below w.heap.size w w' := by
  have mp := hp.2.1
  have mt := ht.2.1
  have hu36 := Tryd.underlying36
  have hu54 := Tryd.underlying54
  have hu57 := Tryd.underlying57
  have hu28 := Tryd.underlying28
  have HP := Aside0.mk hp
  have HT := Aside0.mk ht
  have HL := Aside0.mk hL
  have HWT := Aside0.mk hwt
  have HWP := Aside0.mk hwp
  have HSZ := Aside0.mk hsz
  clear hp ht hL hwt hwp hsz
  go_enter Tryd.func22, Tryd.ntmps22
  go_wp2_with (first
    | ((with_reducible refine gate_dst (N := 1) rfl ?_); refine box_event ?hg (N := 1) ?hd (cs := #[.slice A0 ps.length c0, .slice A1 ts.length c1]) (t := 36) ?hr ?_; (case hd => rfl); (case hg => rfl); (case hr => first | (go_simp; done) | (go_simp; rfl)); intro gb hg w2 hbox hb; have BK0 := Aside0.mk hbox; have HB0 := Aside0.mk hb; clear hg hbox hb)
    | ((with_reducible refine gate_dst (N := 4) rfl ?_); refine box_event ?hg (N := 4) ?hd (cs := #[.pointer none, .slice none 0 0]) (t := 69) ?hr ?_; (case hd => rfl); (case hg => rfl); (case hr => first | (go_simp; done) | (go_simp; rfl)); intro bb hg w3 hbox hb; have HX := Aside0.mk (fresh_builder bb w3 hbox); have GE := Aside0.mk (show w.heap.size ≤ bb by rw [hg]; exact HB0.out.size); have BK := Aside0.mk (blk_below BK0.out hb); have HB := Aside0.mk (below_then HB0.out HB0.out.size hb); clear BK0 HB0; have hc0 : w3.cell? ⟨gb, 0, none⟩ = some (.slice A0 ps.length c0) := (blk_cell BK.out 0).trans rfl; have hc1 : w3.cell? ⟨gb, 1, none⟩ = some (.slice A1 ts.length c1) := (blk_cell BK.out 1).trans rfl; clear hg hbox hb))
  clear hc0 hc1
  go_loopw [16] (fun i wr => ∃ k : Nat, i = .int .i64 k ∧ k ≤ ts.length ∧ Aside0 (Lib.IsBuilder 69 5 bb bb (Lib.strCells (typesText ⟨#[]⟩ (ts.take k))) wr) ∧ Aside0 (wr.heap[gb]? = some (.cells #[.slice A0 ps.length c0, .slice A1 ts.length c1] 36 (0, 0))) ∧ Aside0 (Below w.heap.size w wr)) (fun i _ => ts.length - (intOf i).toNat)
  case atStart => exact ⟨0, rfl, by omega, HX, BK, HB⟩
  case round =>
    clear HX BK HB
    obtain ⟨k, rfl, hk, HX, BK, HB⟩ := hrel
    by_cases hlt : k < ts.length
    · obtain ⟨ad, A2, c2, e, x0, x1, x2, hl, hi⟩ := at_T54 HT.out (k : Int) (by omega) (by omega)
      cases e
      have hrd : rd_T54 ts (k : Int) = ts[k] := by simp [rd_T54, hlt]
      rw [hrd] at x0 x1 x2 hl hi
      rw [Int.toNat_natCast] at x0 x1 x2
      replace x0 := pw_cell_below HB.out x0
      replace x1 := pw_cell_below HB.out x1
      replace x2 := pw_cell_below HB.out x2
      have HTX : Aside0 (typesText ⟨#[]⟩ (ts.take (k + 1)) = typesText ⟨#[]⟩ (ts.take k) ++ typeLine ts[k]) := ⟨fold_take _ ts ⟨#[]⟩ k hlt⟩
      have HWK := Aside0.mk (HWT.out ts[k] (List.getElem_mem hlt))
      generalize ts[k] = t at x0 x1 x2 hl hi HTX HWK
      have HI := Aside0.mk hi
      clear hi hrd
      have hsz2 : (typesText ⟨#[]⟩ (ts.take k)).size + (typeLine t).size + 1 ≤ 140737488355328 := by
        have h1 := fold_le (fun acc t => acc ++ typeLine t) (fun _ _ => grow_app _ _) ts ⟨#[]⟩ (k + 1)
        have h2 := fold_size progText prog_grow ps (typesText ⟨#[]⟩ ts)
        have h3 := HSZ.out
        have h4 := congrArg ByteArray.size HTX.out
        rw [size_append] at h4
        simp only [fullText, progsText, typesText] at h1 h2 h3 h4 ⊢
        omega
      have HS2 := Aside0.mk hsz2
      clear hsz2
      try go_wp2_with (first | ((with_reducible refine gate_dst (N := 6) rfl ?_); refine box_event ?hg (N := 6) ?hd (cs := #[.int .i64 0, .slice none 0 0, .bool false]) (t := 54) ?hr ?_; (case hd => rfl); (case hg => rfl); (case hr => first | (go_simp; done) | (go_simp; rfl)); intro g6 hg w4 hbox hb; have BK6 := Aside0.mk hbox; have HBW := Aside0.mk hb; have GE6 := Aside0.mk (Nat.le_of_eq hg.symm); have hz0 : w4.cell? ⟨g6, 0, none⟩ = some (.int .i64 0) := (blk_cell hbox 0).trans rfl; have hf0 := blk_frozen hbox 0; have hz1 : w4.cell? ⟨g6, 1, none⟩ = some (.slice none 0 0) := (blk_cell hbox 1).trans rfl; have hf1 := blk_frozen hbox 1; have hz2 : w4.cell? ⟨g6, 2, none⟩ = some (.bool false) := (blk_cell hbox 2).trans rfl; have hf2 := blk_frozen hbox 2; clear hg hbox hb))
      clear hz0 hf0 hz1 hf1 hz2 hf2
      have n0_ := Aside0.mk (blk_put (cs := #[.int .i64 t.f0, .slice A2 t.f1.length c2, .bool false]) (blk_put (cs := #[.int .i64 t.f0, .slice none 0 0, .bool false]) (blk_put (cs := #[.int .i64 0, .slice none 0 0, .bool false]) BK6.out 0 (.int .i64 t.f0) rfl) 1 (.slice A2 t.f1.length c2) rfl) 2 (.bool t.f2) rfl)
      have n1_ := Aside0.mk (below_set (g := g6) (j := 2) (v := .bool t.f2) (below_set (g := g6) (j := 1) (v := .slice A2 t.f1.length c2) (below_set (g := g6) (j := 0) (v := .int .i64 t.f0) HBW.out GE6.out) GE6.out) GE6.out)
      generalize (((w4.setCell ⟨g6, 0, none⟩ (.int .i64 t.f0)).setCell ⟨g6, 1, none⟩ (.slice A2 t.f1.length c2)).setCell ⟨g6, 2, none⟩ (.bool t.f2)) = w5 at n0_ n1_ ⊢
      have n2_ := Aside0.mk (builder_below HX.out n1_.out)
      have n3_ := Aside0.mk (blk_below BK.out n1_.out)
      have n4_ := Aside0.mk (below_then HB.out HB.out.size n1_.out)
      clear BK6 HBW HX BK HB
      have BK6 := Aside0.mk (blk_drew n0_.out)
      have HX := Aside0.mk (builder_below n2_.out (below_drew (Below.refl _ _)))
      have BK := Aside0.mk (blk_drew n3_.out)
      have HB := Aside0.mk (below_drew1 n4_.out)
      have HI5 := Aside0.mk (Kd.C_below HI.out HB.out)
      clear n0_ n1_ n2_ n3_ n4_
      obtain ⟨xs, hxs⟩ : ∃ xs, xs = [t.f0, flagOf t.f2] ++ t.f1 := ⟨_, rfl⟩
      have HXS := Aside0.mk hxs
      have HWX : Aside0 (∀ n ∈ xs, (Lit.int .i64 n).wf = true) := ⟨by
        intro n hn
        rw [hxs] at hn
        simp only [List.mem_append, List.mem_cons, List.not_mem_nil, or_false] at hn
        rcases hn with (rfl | rfl) | hn
        · exact HWK.out.2.1
        · cases t.f2 <;> rfl
        · exact HWK.out.1 n hn⟩
      have hln : lineOf typeWord xs = typeLine t := by rw [hxs]; rfl
      have HLN := Aside0.mk hln
      have HSX : Aside0 ((wordsOf typeWord xs).size + 1 ≤ 9223372036854775807) := ⟨by
        have h1 : (lineOf typeWord xs).size = (wordsOf typeWord xs).size + 1 := by rw [lineOf, size_append]; rfl
        have h2 := HS2.out
        rw [← hln] at h2
        omega⟩
      clear hxs hln
      refine start_ (n := 11) (S := fun w' => w'.cell? ⟨g6, 0, none⟩ = some (.int .i64 t.f0) ∧ w'.cell? ⟨g6, 1, none⟩ = some (.slice A2 t.f1.length c2) ∧ w'.cell? ⟨g6, 2, none⟩ = some (.bool t.f2)) (ds := []) #[false, false, false, false, false, false, false, false, false, false, false] (by kernel_rfl) rfl rfl ⟨(blk_cell BK6.out 0).trans rfl, (blk_cell BK6.out 1).trans rfl, (blk_cell BK6.out 2).trans rfl⟩ (fun hHeld => ?_)
      refine with_tabW p5tab p5bits (fun HT_ HW_ => ?_)
      generalize w5.drew = w6 at BK6 HX BK HB HI5 hHeld ⊢
      refine pure_ (i := 0) (N := some 20) (v := ?_) (a' := ?_) #[true, false, false, false, false, false, false, false, false, false, false] rfl rfl (any_of HT_.out (by kernel_rfl)) (fun _ _ _ h => h) (Or.inl ⟨by rfl, ?_⟩) ?_ ?_
      rotate_left
      · intro w'
        go_simp
        with_reducible rfl
      rotate_left
      · simp only [Act.put, List.setIfInBounds_toArray, List.set_cons_zero, List.set_cons_succ, i64_w, i32_w]
        rfl
      refine pure_ (i := 2) (N := some 22) (v := ?_) (a' := ?_) #[true, false, true, false, false, false, false, false, false, false, false] rfl rfl (any_of HT_.out (by kernel_rfl)) (fun _ _ _ h => h) (Or.inl ⟨by rfl, ?_⟩) ?_ ?_
      rotate_left
      · intro w'
        go_simp
        with_reducible rfl
      rotate_left
      · simp only [Act.put, List.setIfInBounds_toArray, List.set_cons_zero, List.set_cons_succ, i64_w, i32_w]
        rfl
      refine pure_ (i := 6) (N := some 26) (v := ?_) (a' := ?_) #[true, false, true, false, false, false, true, false, false, false, false] rfl rfl (any_of HT_.out (by kernel_rfl)) (fun _ _ _ h => h) (Or.inl ⟨by rfl, ?_⟩) ?_ ?_
      rotate_left
      · intro w'
        go_simp
        with_reducible rfl
      rotate_left
      · simp only [Act.put, List.setIfInBounds_toArray, List.set_cons_zero, List.set_cons_succ, i64_w, i32_w]
        rfl
      refine take_ (i := 1) (N := some 21) (v := ?_) (a' := ?_) #[true, true, true, false, false, false, true, false, false, false, false] rfl rfl (take_ofW HT_.out HW_.out (by kernel_rfl)) (fun _ _ _ h => h) (Or.inl ⟨by rfl, ?_⟩) hHeld ?_ ?_
      rotate_left
      · rintro w' ⟨s0, s1, s2⟩
        go_simp
        with_reducible rfl
      rotate_left
      · simp only [Act.put, List.setIfInBounds_toArray, List.set_cons_zero, List.set_cons_succ, i64_w, i32_w]
        rfl
      refine take_ (i := 3) (N := some 23) (v := ?_) (a' := ?_) #[true, true, true, true, false, false, true, false, false, false, false] rfl rfl (take_ofW HT_.out HW_.out (by kernel_rfl)) (fun _ _ _ h => h) (Or.inl ⟨by rfl, ?_⟩) hHeld ?_ ?_
      rotate_left
      · rintro w' ⟨s0, s1, s2⟩
        go_simp
        with_reducible rfl
      rotate_left
      · simp only [Act.put, List.setIfInBounds_toArray, List.set_cons_zero, List.set_cons_succ, i64_w, i32_w]
        rfl
      refine take_ (i := 7) (N := some 27) (v := ?_) (a' := ?_) #[true, true, true, true, false, false, true, true, false, false, false] rfl rfl (take_ofW HT_.out HW_.out (by kernel_rfl)) (fun _ _ _ h => h) (Or.inl ⟨by rfl, ?_⟩) hHeld ?_ ?_
      rotate_left
      · rintro w' ⟨s0, s1, s2⟩
        go_simp
        with_reducible rfl
      rotate_left
      · simp only [Act.put, List.setIfInBounds_toArray, List.set_cons_zero, List.set_cons_succ, i64_w, i32_w]
        rfl
      refine one_ (i := 4) (N := some 24) #[true, true, true, true, true, false, true, true, false, false, false] rfl rfl (one_of HT_.out (by kernel_rfl)) (by decide) (fun K hK => ?_)
      refine goes_ Tryd.func38 (by kernel_rfl) rfl #[.bool t.f2] (by rfl) rfl rfl (by (try simp only [List.map_toArray, List.map_cons, List.map_nil]); first | done | rfl) ?_
      refine (flag_any t.f2 _).mono ?_
      rintro e w' ⟨rfl, hw⟩
      rw [hw]
      clear hw
      refine ⟨_, rfl, ?_⟩
      refine hK.out _ _ ⟨(blk_cell BK6.out 0).trans rfl, (blk_cell BK6.out 1).trans rfl, (blk_cell BK6.out 2).trans rfl⟩ (fun hHeld => ?_)
      clear hK K
      refine norm_ (a' := ?_) ?_ ?_
      rotate_left
      · show Act.put _ (some 24) _ = _
        simp only [Act.put, List.setIfInBounds_toArray, List.set_cons_zero, List.set_cons_succ, i64_w, i32_w]
        rfl
      refine one_ (i := 5) (N := some 25) #[true, true, true, true, true, true, true, true, false, false, false] rfl rfl (one_of HT_.out (by kernel_rfl)) (by decide) (fun K hK => ?_)
      refine Kd.R_lit_step (Kd.int .i64) _ 3 ?hg (N := 25) ?hd (xs := ([t.f0, flagOf t.f2] : List Int)) (inner := [.int .i64 t.f0, .int .i64 (flagOf t.f2)]) (ok := fun _ => True) (okp := fun _ => True) ?hr ?hp (fun _ hk => hk) trivial (Below.refl _ _) (Nat.le_refl _) (by simp) ?_; (case hd => rfl); (case hg => rfl); (case hr => first | (go_simp; done) | (go_simp; rfl)); (case hp => exact (Reps.one (show Kd.M (Kd.int .i64) _ _ _ t.f0 [.int .i64 t.f0] from rfl) (Reps.one (show Kd.M (Kd.int .i64) _ _ _ (flagOf t.f2) [.int .i64 (flagOf t.f2)] from rfl) (Reps.none _ _))))
      intro v7 w7 ho7 hb hg_ hnew_
      clear hg_ hnew_
      have HO7 := Aside0.mk ho7
      have BK7 := Aside0.mk (blk_below BK6.out hb)
      have HB7 := Aside0.mk hb
      clear ho7 hb
      refine hK.out _ _ ⟨(blk_cell BK7.out 0).trans rfl, (blk_cell BK7.out 1).trans rfl, (blk_cell BK7.out 2).trans rfl⟩ (fun hHeld => ?_)
      clear hK K
      refine norm_ (a' := ?_) ?_ ?_
      rotate_left
      · show Act.put _ (some 25) _ = _
        simp only [Act.put, List.setIfInBounds_toArray, List.set_cons_zero, List.set_cons_succ, i64_w, i32_w]
        rfl
      refine one_ (i := 8) (N := some 28) #[true, true, true, true, true, true, true, true, true, false, false] rfl rfl (one_of HT_.out (by kernel_rfl)) (by decide) (fun K hK => ?_)
      refine Kd.R_append_rows_step (Kd.int .i64) (w0 := w6) w6.heap.size (by rfl) (.tmp 25) (.tmp 27) 26 3 (.int .i64 0) 8 (by rfl) Tryd.underlying26 info3 (by rfl) (by decide) (by omega) v7 [t.f0, flagOf t.f2] t.f1 A2 t.f1.length c2 (fun _ => True) (fun _ => False) (by rfl) (by rfl) HO7.out (Kd.C_below HI5.out HB7.out) (fun _ _ h => h) (fun _ h => h.elim) (fun _ _ => trivial) HB7.out HB7.out.size ?aL ?_
      (case aL => have := HWK.out.2.2; simp; omega)
      intro v9 w9 ho9 hb _ _
      rw [← HXS.out] at ho9
      obtain ⟨A9, c9, rfl, hc9, hC9⟩ := Kd.R_reads ho9
      have HC9 := Aside0.mk hC9
      clear ho9 hC9
      have n2_ := Aside0.mk (builder_below HX.out hb)
      have n3_ := Aside0.mk (blk_below BK.out hb)
      have n4_ := Aside0.mk (below_then HB.out HB.out.size hb)
      have n0_ := Aside0.mk (blk_below BK6.out hb)
      clear HX BK HB BK6 hb
      have HX := n2_
      have BK := n3_
      have HB := n4_
      have BK6 := n0_
      clear n0_ n2_ n3_ n4_
      clear BK7 HB7 HO7
      refine hK.out _ _ ⟨(blk_cell BK6.out 0).trans rfl, (blk_cell BK6.out 1).trans rfl, (blk_cell BK6.out 2).trans rfl⟩ (fun hHeld => ?_)
      clear hK K
      refine norm_ (a' := ?_) ?_ ?_
      rotate_left
      · show Act.put _ (some 28) _ = _
        simp only [Act.put, List.setIfInBounds_toArray, List.set_cons_zero, List.set_cons_succ, i64_w, i32_w]
        rfl
      refine one_ (i := 9) (N := some 29) #[true, true, true, true, true, true, true, true, true, true, false] rfl rfl (one_of HT_.out (by kernel_rfl)) (by decide) (fun K hK => ?_)
      refine goes_ Tryd.func37 (by kernel_rfl) rfl #[.string typeWord, .slice A9 xs.length c9] (by rfl) rfl rfl (by (try simp only [List.map_toArray, List.map_cons, List.map_nil]); first | done | rfl) ?_
      refine (line_any A9 c9 xs typeWord _ HC9.out HWX.out (HL.out.below HB.out) HSX.out).mono ?_
      rintro e w10 ⟨rfl, hb⟩
      refine ⟨_, rfl, ?_⟩
      have n2_ := Aside0.mk (builder_below HX.out hb)
      have n3_ := Aside0.mk (blk_below BK.out hb)
      have n4_ := Aside0.mk (below_then HB.out HB.out.size hb)
      have n0_ := Aside0.mk (blk_below BK6.out hb)
      clear HX BK HB BK6 hb
      have HX := n2_
      have BK := n3_
      have HB := n4_
      have BK6 := n0_
      clear n0_ n2_ n3_ n4_
      refine hK.out _ _ ⟨(blk_cell BK6.out 0).trans rfl, (blk_cell BK6.out 1).trans rfl, (blk_cell BK6.out 2).trans rfl⟩ (fun hHeld => ?_)
      clear hK K
      refine norm_ (a' := ?_) ?_ ?_
      rotate_left
      · show Act.put _ (some 29) _ = _
        simp only [Act.put, List.setIfInBounds_toArray, List.set_cons_zero, List.set_cons_succ, i64_w, i32_w]
        rfl
      refine one_ (i := 10) (N := some 30) #[true, true, true, true, true, true, true, true, true, true, true] rfl rfl (one_of HT_.out (by kernel_rfl)) (by decide) (fun K hK => ?_)
      refine goes_ Tryd.func36 (by kernel_rfl) rfl #[.pointer (some ⟨bb, 0, none⟩), .string (lineOf typeWord xs)] (by rfl) rfl rfl (by (try simp only [List.map_toArray, List.map_cons, List.map_nil]); first | done | rfl) ?_
      refine (write_on bb (typesText ⟨#[]⟩ (ts.take k)) (lineOf typeWord xs) _ HX.out (by rw [HLN.out]; have := HS2.out; omega)).mono ?_
      rintro e w11 ⟨rfl, hx, hb, hk⟩
      refine ⟨_, rfl, ?_⟩
      have n2_ := Aside0.mk hx
      have n3_ := Aside0.mk (hk _ _ _ (by decide) (by decide) BK.out)
      have n4_ := Aside0.mk (HB.out.trans (hb.mono GE.out))
      have n0_ := Aside0.mk (hk _ _ _ (by decide) (by decide) BK6.out)
      clear HX BK HB BK6 hb hx hk
      have HX := n2_
      have BK := n3_
      have HB := n4_
      have BK6 := n0_
      clear n0_ n2_ n3_ n4_
      refine hK.out _ _ ⟨(blk_cell BK6.out 0).trans rfl, (blk_cell BK6.out 1).trans rfl, (blk_cell BK6.out 2).trans rfl⟩ (fun hHeld => ?_)
      clear hK K
      refine norm_ (a' := ?_) ?_ ?_
      rotate_left
      · show Act.put _ (some 30) _ = _
        simp only [Act.put, List.setIfInBounds_toArray, List.set_cons_zero, List.set_cons_succ, i64_w, i32_w]
        rfl
      refine done_ (done_of HT_.out (by kernel_rfl)) ?_
      go_wp2
      go_roundw
      case rel => exact ⟨k + 1, by go_num, by omega, by rw [HTX.out, ← HLN.out]; exact HX, BK, HB⟩
      case measure => simp [intOf]; omega
    · obtain rfl : k = ts.length := by omega
      rw [List.take_length] at HX
      have hc0 : wr.cell? ⟨gb, 0, none⟩ = some (.slice A0 ps.length c0) := (blk_cell BK.out 0).trans rfl
      obtain ⟨T0, hT0⟩ : ∃ T0, T0 = typesText ⟨#[]⟩ ts := ⟨_, rfl⟩
      rw [← hT0] at HX
      have HT0 := Aside0.mk hT0
      clear hT0
      go_wp2
      clear hc0
      go_loopw [35] (fun i wr2 => ∃ k : Nat, i = .int .i64 k ∧ k ≤ ps.length ∧ Aside0 (cleanProgs (ps.take k) = true) ∧ Aside0 (Lib.IsBuilder 69 5 bb bb (Lib.strCells (progsText T0 (ps.take k))) wr2) ∧ Aside0 (wr2.heap[gb]? = some (.cells #[.slice A0 ps.length c0, .slice A1 ts.length c1] 36 (0, 0))) ∧ Aside0 (Below w.heap.size w wr2)) (fun i _ => ps.length - (intOf i).toNat)
      case atStart => exact ⟨0, rfl, by omega, ⟨rfl⟩, HX, BK, HB⟩
      case round =>
        clear HX BK HB
        obtain ⟨k, rfl, hk, HCL, HX, BK, HB⟩ := hrel
        by_cases hlt : k < ps.length
        · obtain ⟨ad, A3, c3, e, x0, x1, x2, x3, x4, hl, hi⟩ := at_T57 HP.out (k : Int) (by omega) (by omega)
          cases e
          have hrd : rd_T57 ps (k : Int) = ps[k] := by simp [rd_T57, hlt]
          rw [hrd] at x0 x1 x2 x3 x4 hl hi
          rw [Int.toNat_natCast] at x0 x1 x2 x3 x4
          replace x0 := pw_cell_below HB.out x0
          replace x1 := pw_cell_below HB.out x1
          replace x2 := pw_cell_below HB.out x2
          replace x3 := pw_cell_below HB.out x3
          replace x4 := pw_cell_below HB.out x4
          have HTX : Aside0 (progsText T0 (ps.take (k + 1)) = progText (progsText T0 (ps.take k)) ps[k]) := ⟨fold_take progText ps T0 k hlt⟩
          have HC1 : Aside0 (cleanProgs (ps.take (k + 1)) = (cleanProgs (ps.take k) && cleanCode ps[k].f4)) := ⟨by rw [cleanProgs, cleanProgs, List.take_succ_eq_append_getElem hlt, List.all_append, List.all_cons, List.all_nil, Bool.and_true]⟩
          have HWK := Aside0.mk (HWP.out ps[k] (List.getElem_mem hlt))
          have HMEM := Aside0.mk (List.getElem_mem hlt)
          generalize ps[k] = p at x0 x1 x2 x3 x4 hl hi HTX HWK HMEM HC1
          have HI := Aside0.mk hi
          have hm4 := hi.2.1
          clear hi hrd
          have hsz2 : (progText (progsText T0 (ps.take k)) p).size + 1 ≤ 140737488355328 := by
            have h1 := fold_le progText prog_grow ps T0 (k + 1)
            have h3 := HSZ.out
            rw [fullText, ← HT0.out] at h3
            have h4 := congrArg ByteArray.size HTX.out
            simp only [progsText] at h1 h3 h4 ⊢
            omega
          have hsz3 : ((progsText T0 (ps.take k)).size + (progLine p).size) + 1 ≤ 140737488355328 := by
            have h1 := code_grow (progsText T0 (ps.take k) ++ progLine p) p.f4
            rw [size_append] at h1
            rw [progText] at hsz2
            omega
          have HS2 := Aside0.mk hsz2
          have HS3 := Aside0.mk hsz3
          clear hsz2 hsz3
          try go_wp2_with (first | ((with_reducible refine gate_dst (N := 8) rfl ?_); refine box_event ?hg (N := 8) ?hd (cs := #[.int .i64 0, .int .i64 0, .int .i64 0, .bool false, .slice none 0 0]) (t := 57) ?hr ?_; (case hd => rfl); (case hg => rfl); (case hr => first | (go_simp; done) | (go_simp; rfl)); intro g8 hg w4 hbox hb; have BK6 := Aside0.mk hbox; have HBW := Aside0.mk hb; have GE6 := Aside0.mk (Nat.le_of_eq hg.symm); have hz0 : w4.cell? ⟨g8, 0, none⟩ = some (.int .i64 0) := (blk_cell hbox 0).trans rfl; have hf0 := blk_frozen hbox 0; have hz1 : w4.cell? ⟨g8, 1, none⟩ = some (.int .i64 0) := (blk_cell hbox 1).trans rfl; have hf1 := blk_frozen hbox 1; have hz2 : w4.cell? ⟨g8, 2, none⟩ = some (.int .i64 0) := (blk_cell hbox 2).trans rfl; have hf2 := blk_frozen hbox 2; have hz3 : w4.cell? ⟨g8, 3, none⟩ = some (.bool false) := (blk_cell hbox 3).trans rfl; have hf3 := blk_frozen hbox 3; have hz4 : w4.cell? ⟨g8, 4, none⟩ = some (.slice none 0 0) := (blk_cell hbox 4).trans rfl; have hf4 := blk_frozen hbox 4; clear hg hbox hb))
          clear hz0 hf0 hz1 hf1 hz2 hf2 hz3 hf3 hz4 hf4
          have n0_ := Aside0.mk (blk_put (cs := #[.int .i64 p.f0, .int .i64 p.f1, .int .i64 p.f2, .bool p.f3, .slice none 0 0]) (blk_put (cs := #[.int .i64 p.f0, .int .i64 p.f1, .int .i64 p.f2, .bool false, .slice none 0 0]) (blk_put (cs := #[.int .i64 p.f0, .int .i64 p.f1, .int .i64 0, .bool false, .slice none 0 0]) (blk_put (cs := #[.int .i64 p.f0, .int .i64 0, .int .i64 0, .bool false, .slice none 0 0]) (blk_put (cs := #[.int .i64 0, .int .i64 0, .int .i64 0, .bool false, .slice none 0 0]) BK6.out 0 (.int .i64 p.f0) rfl) 1 (.int .i64 p.f1) rfl) 2 (.int .i64 p.f2) rfl) 3 (.bool p.f3) rfl) 4 (.slice A3 p.f4.length c3) rfl)
          have n1_ := Aside0.mk (below_set (g := g8) (j := 4) (v := .slice A3 p.f4.length c3) (below_set (g := g8) (j := 3) (v := .bool p.f3) (below_set (g := g8) (j := 2) (v := .int .i64 p.f2) (below_set (g := g8) (j := 1) (v := .int .i64 p.f1) (below_set (g := g8) (j := 0) (v := .int .i64 p.f0) HBW.out GE6.out) GE6.out) GE6.out) GE6.out) GE6.out)
          generalize (((((w4.setCell ⟨g8, 0, none⟩ (.int .i64 p.f0)).setCell ⟨g8, 1, none⟩ (.int .i64 p.f1)).setCell ⟨g8, 2, none⟩ (.int .i64 p.f2)).setCell ⟨g8, 3, none⟩ (.bool p.f3)).setCell ⟨g8, 4, none⟩ (.slice A3 p.f4.length c3)) = w5 at n0_ n1_ ⊢
          have n2_ := Aside0.mk (builder_below HX.out n1_.out)
          have n3_ := Aside0.mk (blk_below BK.out n1_.out)
          have n4_ := Aside0.mk (below_then HB.out HB.out.size n1_.out)
          clear BK6 HBW HX BK HB
          have BK6 := Aside0.mk (blk_drew n0_.out)
          have HX := Aside0.mk (builder_below n2_.out (below_drew (Below.refl _ _)))
          have BK := Aside0.mk (blk_drew n3_.out)
          have HB := Aside0.mk (below_drew1 n4_.out)
          clear n0_ n1_ n2_ n3_ n4_
          obtain ⟨xs, hxs⟩ : ∃ xs, xs = [p.f0, p.f1, p.f2, flagOf p.f3] := ⟨_, rfl⟩
          have HXS := Aside0.mk hxs
          have HWX : Aside0 (∀ n ∈ xs, (Lit.int .i64 n).wf = true) := ⟨by
            intro n hn
            rw [hxs] at hn
            simp only [List.mem_cons, List.not_mem_nil, or_false] at hn
            rcases hn with rfl | rfl | rfl | rfl
            · exact HWK.out.1
            · exact HWK.out.2.1
            · exact HWK.out.2.2.1
            · cases p.f3 <;> rfl⟩
          have hln : lineOf progWord xs = progLine p := by rw [hxs]; rfl
          have HLN := Aside0.mk hln
          have HSX : Aside0 ((wordsOf progWord xs).size + 1 ≤ 9223372036854775807) := ⟨by
            have h1 : (lineOf progWord xs).size = (wordsOf progWord xs).size + 1 := by rw [lineOf, size_append]; rfl
            have h2 := HS3.out
            rw [← hln] at h2
            omega⟩
          clear hxs hln
          refine start_ (n := 12) (S := fun w' => w'.cell? ⟨g8, 0, none⟩ = some (.int .i64 p.f0) ∧ w'.cell? ⟨g8, 1, none⟩ = some (.int .i64 p.f1) ∧ w'.cell? ⟨g8, 2, none⟩ = some (.int .i64 p.f2) ∧ w'.cell? ⟨g8, 3, none⟩ = some (.bool p.f3) ∧ w'.cell? ⟨g8, 4, none⟩ = some (.slice A3 p.f4.length c3)) (ds := []) #[false, false, false, false, false, false, false, false, false, false, false, false] (by kernel_rfl) rfl rfl ⟨(blk_cell BK6.out 0).trans rfl, (blk_cell BK6.out 1).trans rfl, (blk_cell BK6.out 2).trans rfl, (blk_cell BK6.out 3).trans rfl, (blk_cell BK6.out 4).trans rfl⟩ (fun hHeld => ?_)
          refine with_tabW p10tab p10bits (fun HT_ HW_ => ?_)
          generalize w5.drew = w6 at BK6 HX BK HB hHeld ⊢
          refine pure_ (i := 0) (N := some 39) (v := ?_) (a' := ?_) #[true, false, false, false, false, false, false, false, false, false, false, false] rfl rfl (any_of HT_.out (by kernel_rfl)) (fun _ _ _ h => h) (Or.inl ⟨by rfl, ?_⟩) ?_ ?_
          rotate_left
          · intro w'
            go_simp
            with_reducible rfl
          rotate_left
          · simp only [Act.put, List.setIfInBounds_toArray, List.set_cons_zero, List.set_cons_succ, i64_w, i32_w]
            rfl
          refine pure_ (i := 2) (N := some 41) (v := ?_) (a' := ?_) #[true, false, true, false, false, false, false, false, false, false, false, false] rfl rfl (any_of HT_.out (by kernel_rfl)) (fun _ _ _ h => h) (Or.inl ⟨by rfl, ?_⟩) ?_ ?_
          rotate_left
          · intro w'
            go_simp
            with_reducible rfl
          rotate_left
          · simp only [Act.put, List.setIfInBounds_toArray, List.set_cons_zero, List.set_cons_succ, i64_w, i32_w]
            rfl
          refine pure_ (i := 4) (N := some 43) (v := ?_) (a' := ?_) #[true, false, true, false, true, false, false, false, false, false, false, false] rfl rfl (any_of HT_.out (by kernel_rfl)) (fun _ _ _ h => h) (Or.inl ⟨by rfl, ?_⟩) ?_ ?_
          rotate_left
          · intro w'
            go_simp
            with_reducible rfl
          rotate_left
          · simp only [Act.put, List.setIfInBounds_toArray, List.set_cons_zero, List.set_cons_succ, i64_w, i32_w]
            rfl
          refine pure_ (i := 6) (N := some 45) (v := ?_) (a' := ?_) #[true, false, true, false, true, false, true, false, false, false, false, false] rfl rfl (any_of HT_.out (by kernel_rfl)) (fun _ _ _ h => h) (Or.inl ⟨by rfl, ?_⟩) ?_ ?_
          rotate_left
          · intro w'
            go_simp
            with_reducible rfl
          rotate_left
          · simp only [Act.put, List.setIfInBounds_toArray, List.set_cons_zero, List.set_cons_succ, i64_w, i32_w]
            rfl
          refine take_ (i := 1) (N := some 40) (v := ?_) (a' := ?_) #[true, true, true, false, true, false, true, false, false, false, false, false] rfl rfl (take_ofW HT_.out HW_.out (by kernel_rfl)) (fun _ _ _ h => h) (Or.inl ⟨by rfl, ?_⟩) hHeld ?_ ?_
          rotate_left
          · rintro w' ⟨s0, s1, s2, s3, s4⟩
            go_simp
            with_reducible rfl
          rotate_left
          · simp only [Act.put, List.setIfInBounds_toArray, List.set_cons_zero, List.set_cons_succ, i64_w, i32_w]
            rfl
          refine take_ (i := 3) (N := some 42) (v := ?_) (a' := ?_) #[true, true, true, true, true, false, true, false, false, false, false, false] rfl rfl (take_ofW HT_.out HW_.out (by kernel_rfl)) (fun _ _ _ h => h) (Or.inl ⟨by rfl, ?_⟩) hHeld ?_ ?_
          rotate_left
          · rintro w' ⟨s0, s1, s2, s3, s4⟩
            go_simp
            with_reducible rfl
          rotate_left
          · simp only [Act.put, List.setIfInBounds_toArray, List.set_cons_zero, List.set_cons_succ, i64_w, i32_w]
            rfl
          refine take_ (i := 5) (N := some 44) (v := ?_) (a' := ?_) #[true, true, true, true, true, true, true, false, false, false, false, false] rfl rfl (take_ofW HT_.out HW_.out (by kernel_rfl)) (fun _ _ _ h => h) (Or.inl ⟨by rfl, ?_⟩) hHeld ?_ ?_
          rotate_left
          · rintro w' ⟨s0, s1, s2, s3, s4⟩
            go_simp
            with_reducible rfl
          rotate_left
          · simp only [Act.put, List.setIfInBounds_toArray, List.set_cons_zero, List.set_cons_succ, i64_w, i32_w]
            rfl
          refine take_ (i := 7) (N := some 46) (v := ?_) (a' := ?_) #[true, true, true, true, true, true, true, true, false, false, false, false] rfl rfl (take_ofW HT_.out HW_.out (by kernel_rfl)) (fun _ _ _ h => h) (Or.inl ⟨by rfl, ?_⟩) hHeld ?_ ?_
          rotate_left
          · rintro w' ⟨s0, s1, s2, s3, s4⟩
            go_simp
            with_reducible rfl
          rotate_left
          · simp only [Act.put, List.setIfInBounds_toArray, List.set_cons_zero, List.set_cons_succ, i64_w, i32_w]
            rfl
          refine one_ (i := 8) (N := some 47) #[true, true, true, true, true, true, true, true, true, false, false, false] rfl rfl (one_of HT_.out (by kernel_rfl)) (by decide) (fun K hK => ?_)
          refine goes_ Tryd.func38 (by kernel_rfl) rfl #[.bool p.f3] (by rfl) rfl rfl (by (try simp only [List.map_toArray, List.map_cons, List.map_nil]); first | done | rfl) ?_
          refine (flag_any p.f3 _).mono ?_
          rintro e w' ⟨rfl, hw⟩
          rw [hw]
          clear hw
          refine ⟨_, rfl, ?_⟩
          refine hK.out _ _ ⟨(blk_cell BK6.out 0).trans rfl, (blk_cell BK6.out 1).trans rfl, (blk_cell BK6.out 2).trans rfl, (blk_cell BK6.out 3).trans rfl, (blk_cell BK6.out 4).trans rfl⟩ (fun hHeld => ?_)
          clear hK K
          refine norm_ (a' := ?_) ?_ ?_
          rotate_left
          · show Act.put _ (some 47) _ = _
            simp only [Act.put, List.setIfInBounds_toArray, List.set_cons_zero, List.set_cons_succ, i64_w, i32_w]
            rfl
          refine one_ (i := 9) (N := some 48) #[true, true, true, true, true, true, true, true, true, true, false, false] rfl rfl (one_of HT_.out (by kernel_rfl)) (by decide) (fun K hK => ?_)
          refine Kd.R_lit_step (Kd.int .i64) _ 3 ?hg (N := 48) ?hd (xs := ([p.f0, p.f1, p.f2, flagOf p.f3] : List Int)) (inner := [.int .i64 p.f0, .int .i64 p.f1, .int .i64 p.f2, .int .i64 (flagOf p.f3)]) (ok := fun _ => True) (okp := fun _ => True) ?hr ?hp (fun _ hk => hk) trivial (Below.refl _ _) (Nat.le_refl _) (by simp) ?_; (case hd => rfl); (case hg => rfl); (case hr => first | (go_simp; done) | (go_simp; rfl)); (case hp => exact (Reps.one (show Kd.M (Kd.int .i64) _ _ _ (p.f0) [.int .i64 (p.f0)] from rfl) (Reps.one (show Kd.M (Kd.int .i64) _ _ _ (p.f1) [.int .i64 (p.f1)] from rfl) (Reps.one (show Kd.M (Kd.int .i64) _ _ _ (p.f2) [.int .i64 (p.f2)] from rfl) (Reps.one (show Kd.M (Kd.int .i64) _ _ _ (flagOf p.f3) [.int .i64 (flagOf p.f3)] from rfl) (Reps.none _ _))))))
          intro v7 w7 ho7 hb hg_ hnew_
          clear hg_ hnew_
          have HO7 := Aside0.mk ho7
          have n2_ := Aside0.mk (builder_below HX.out hb)
          have n3_ := Aside0.mk (blk_below BK.out hb)
          have n4_ := Aside0.mk (below_then HB.out HB.out.size hb)
          have n0_ := Aside0.mk (blk_below BK6.out hb)
          clear HX BK HB BK6 hb
          have HX := n2_
          have BK := n3_
          have HB := n4_
          have BK6 := n0_
          clear n0_ n2_ n3_ n4_
          rw [← HXS.out] at ho7
          obtain ⟨A9, c9, rfl, hc9, hC9⟩ := Kd.R_reads ho7
          have HC9 := Aside0.mk hC9
          clear ho7 hC9 HO7
          refine hK.out _ _ ⟨(blk_cell BK6.out 0).trans rfl, (blk_cell BK6.out 1).trans rfl, (blk_cell BK6.out 2).trans rfl, (blk_cell BK6.out 3).trans rfl, (blk_cell BK6.out 4).trans rfl⟩ (fun hHeld => ?_)
          clear hK K
          refine norm_ (a' := ?_) ?_ ?_
          rotate_left
          · show Act.put _ (some 48) _ = _
            simp only [Act.put, List.setIfInBounds_toArray, List.set_cons_zero, List.set_cons_succ, i64_w, i32_w]
            rfl
          refine one_ (i := 10) (N := some 49) #[true, true, true, true, true, true, true, true, true, true, true, false] rfl rfl (one_of HT_.out (by kernel_rfl)) (by decide) (fun K hK => ?_)
          refine goes_ Tryd.func37 (by kernel_rfl) rfl #[.string progWord, .slice A9 xs.length c9] (by rfl) rfl rfl (by (try simp only [List.map_toArray, List.map_cons, List.map_nil]); first | done | rfl) ?_
          refine (line_any A9 c9 xs progWord _ HC9.out HWX.out (HL.out.below HB.out) HSX.out).mono ?_
          rintro e w10 ⟨rfl, hb⟩
          refine ⟨_, rfl, ?_⟩
          have n2_ := Aside0.mk (builder_below HX.out hb)
          have n3_ := Aside0.mk (blk_below BK.out hb)
          have n4_ := Aside0.mk (below_then HB.out HB.out.size hb)
          have n0_ := Aside0.mk (blk_below BK6.out hb)
          clear HX BK HB BK6 hb
          have HX := n2_
          have BK := n3_
          have HB := n4_
          have BK6 := n0_
          clear n0_ n2_ n3_ n4_
          refine hK.out _ _ ⟨(blk_cell BK6.out 0).trans rfl, (blk_cell BK6.out 1).trans rfl, (blk_cell BK6.out 2).trans rfl, (blk_cell BK6.out 3).trans rfl, (blk_cell BK6.out 4).trans rfl⟩ (fun hHeld => ?_)
          clear hK K
          refine norm_ (a' := ?_) ?_ ?_
          rotate_left
          · show Act.put _ (some 49) _ = _
            simp only [Act.put, List.setIfInBounds_toArray, List.set_cons_zero, List.set_cons_succ, i64_w, i32_w]
            rfl
          refine one_ (i := 11) (N := some 50) #[true, true, true, true, true, true, true, true, true, true, true, true] rfl rfl (one_of HT_.out (by kernel_rfl)) (by decide) (fun K hK => ?_)
          refine goes_ Tryd.func36 (by kernel_rfl) rfl #[.pointer (some ⟨bb, 0, none⟩), .string (lineOf progWord xs)] (by rfl) rfl rfl (by (try simp only [List.map_toArray, List.map_cons, List.map_nil]); first | done | rfl) ?_
          refine (write_on bb (progsText T0 (ps.take k)) (lineOf progWord xs) _ HX.out (by rw [HLN.out]; have := HS3.out; omega)).mono ?_
          rintro e w11 ⟨rfl, hx, hb, hk⟩
          refine ⟨_, rfl, ?_⟩
          have n2_ := Aside0.mk hx
          have n3_ := Aside0.mk (hk _ _ _ (by decide) (by decide) BK.out)
          have n4_ := Aside0.mk (HB.out.trans (hb.mono GE.out))
          have n0_ := Aside0.mk (hk _ _ _ (by decide) (by decide) BK6.out)
          clear HX BK HB BK6 hb hx hk
          have HX := n2_
          have BK := n3_
          have HB := n4_
          have BK6 := n0_
          clear n0_ n2_ n3_ n4_
          refine hK.out _ _ ⟨(blk_cell BK6.out 0).trans rfl, (blk_cell BK6.out 1).trans rfl, (blk_cell BK6.out 2).trans rfl, (blk_cell BK6.out 3).trans rfl, (blk_cell BK6.out 4).trans rfl⟩ (fun hHeld => ?_)
          clear hK K
          refine norm_ (a' := ?_) ?_ ?_
          rotate_left
          · show Act.put _ (some 50) _ = _
            simp only [Act.put, List.setIfInBounds_toArray, List.set_cons_zero, List.set_cons_succ, i64_w, i32_w]
            rfl
          refine done_ (done_of HT_.out (by kernel_rfl)) ?_
          rw [HLN.out] at HX
          have hz4 : w11.cell? ⟨g8, 4, none⟩ = some (.slice A3 p.f4.length c3) := (blk_cell BK6.out 4).trans rfl
          go_wp2
          clear hz4 BK6
          go_loopw [54] (fun i wr3 => ∃ j : Nat, i = .int .i64 j ∧ j ≤ p.f4.length ∧ Aside0 (cleanCode (p.f4.take j) = true) ∧ Aside0 (Lib.IsBuilder 69 5 bb bb (Lib.strCells (codeText (progsText T0 (ps.take k) ++ progLine p) (p.f4.take j))) wr3) ∧ Aside0 (wr3.heap[gb]? = some (.cells #[.slice (some ad) ps.length c0, .slice A1 ts.length c1] 36 (0, 0))) ∧ Aside0 (Below w.heap.size w wr3)) (fun i _ => p.f4.length - (intOf i).toNat)
          case atStart => exact ⟨0, rfl, by omega, ⟨rfl⟩, HX, BK, HB⟩
          case round =>
            clear HX BK HB
            obtain ⟨j, rfl, hj, HCJ, HX, BK, HB⟩ := hrel
            by_cases hlt3 : j < p.f4.length
            · obtain ⟨ad3, A4, c4, e, x0, x1, x2, x3, hl, hi⟩ := at_T28 HI.out (j : Int) (by omega) (by omega)
              cases e
              have hrd : rd_T28 p.f4 (j : Int) = p.f4[j] := by simp [rd_T28, hlt3]
              rw [hrd] at x0 x1 x2 x3 hl hi
              rw [Int.toNat_natCast] at x0 x1 x2 x3
              replace x0 := pw_cell_below HB.out x0
              replace x1 := pw_cell_below HB.out x1
              replace x2 := pw_cell_below HB.out x2
              replace x3 := pw_cell_below HB.out x3
              have HTX3 : Aside0 (codeText (progsText T0 (ps.take k) ++ progLine p) (p.f4.take (j + 1)) = codeText (progsText T0 (ps.take k) ++ progLine p) (p.f4.take j) ++ insLine p.f4[j].f0 p.f4[j].f1 p.f4[j].f2 p.f4[j].f3) := ⟨fold_take _ p.f4 _ j hlt3⟩
              have HC3 : Aside0 (cleanCode (p.f4.take (j + 1)) = (cleanCode (p.f4.take j) && cleanIns p.f4[j].f0 p.f4[j].f1 p.f4[j].f2 p.f4[j].f3)) := ⟨by rw [cleanCode, cleanCode, List.take_succ_eq_append_getElem hlt3, List.all_append, List.all_cons, List.all_nil, Bool.and_true]⟩
              have HWI := Aside0.mk (HWK.out.2.2.2 p.f4[j] (List.getElem_mem hlt3))
              have HME3 := Aside0.mk (List.getElem_mem hlt3)
              generalize p.f4[j] = x at x0 x1 x2 x3 hl hi HTX3 HWI HME3 HC3
              have HI3 := Aside0.mk hi
              clear hi hrd
              have hsz2 : (codeText (progsText T0 (ps.take k) ++ progLine p) (p.f4.take j)).size + (insLine x.f0 x.f1 x.f2 x.f3).size + 1 ≤ 140737488355328 := by
                have h1 := fold_le (fun acc (x : S28) => acc ++ insLine x.f0 x.f1 x.f2 x.f3) (fun _ _ => grow_app _ _) p.f4 (progsText T0 (ps.take k) ++ progLine p) (j + 1)
                have h3 := HS2.out
                have h4 := congrArg ByteArray.size HTX3.out
                rw [size_append] at h4
                simp only [progText, codeText] at h1 h3 h4 ⊢
                omega
              have HS4 := Aside0.mk hsz2
              clear hsz2
              by_cases hcl : cleanIns x.f0 x.f1 x.f2 x.f3 = true
              · have HCI := Aside0.mk hcl
                clear hcl
                go_wp2_with (first
                  | ((with_reducible refine gate_dst (N := 10) rfl ?_); refine box_event ?hg (N := 10) ?hd (cs := #[.int .i64 0, .int .i64 0, .int .i64 0, .slice none 0 0]) (t := 28) ?hr ?_; (case hd => rfl); (case hg => rfl); (case hr => first | (go_simp; done) | (go_simp; rfl)); intro g10 hg w4 hbox hb; have BK6 := Aside0.mk hbox; have HBW := Aside0.mk hb; have GE6 := Aside0.mk (Nat.le_of_eq hg.symm); clear hg hbox hb)
                  | (refine wpList_store_row rfl 28 (.tmp 10) (.tmp 57) rfl g10 #[.int .i64 x.f0, .int .i64 x.f1, .int .i64 x.f2, .slice A4 x.f3.length c4] rfl rfl 28 _ BK6.out (by kernel_rfl) rfl (by kernel_rfl) ?_; have n0_ : Aside0 ((w4.setRow g10 #[.int .i64 x.f0, .int .i64 x.f1, .int .i64 x.f2, .slice A4 x.f3.length c4]).heap[g10]? = some (.cells #[.int .i64 x.f0, .int .i64 x.f1, .int .i64 x.f2, .slice A4 x.f3.length c4] 28 (0, 0))) := ⟨setRow_heap _ _ _ _ _ _ BK6.out⟩; have n1_ := Aside0.mk (below_setRow HBW.out GE6.out #[.int .i64 x.f0, .int .i64 x.f1, .int .i64 x.f2, .slice A4 x.f3.length c4]); generalize w4.setRow g10 #[.int .i64 x.f0, .int .i64 x.f1, .int .i64 x.f2, .slice A4 x.f3.length c4] = w5 at n0_ n1_ ⊢; have n2_ := Aside0.mk (builder_below HX.out n1_.out); have n3_ := Aside0.mk (blk_below BK.out n1_.out); have n4_ := Aside0.mk (below_then HB.out HB.out.size n1_.out); clear BK6 HBW HX BK HB; have HX := n2_; have BK := n3_; have HB := n4_; have y0 : w5.cell? ⟨g10, 0, none⟩ = some (.int .i64 x.f0) := (blk_cell n0_.out 0).trans rfl; have y1 : w5.cell? ⟨g10, 1, none⟩ = some (.int .i64 x.f1) := (blk_cell n0_.out 1).trans rfl; have y2 : w5.cell? ⟨g10, 2, none⟩ = some (.int .i64 x.f2) := (blk_cell n0_.out 2).trans rfl; have y3 : w5.cell? ⟨g10, 3, none⟩ = some (.slice A4 x.f3.length c4) := (blk_cell n0_.out 3).trans rfl; clear n0_ n1_ n2_ n3_ n4_)
                  | (go_at_call 39; refine (ins_good x.f0 x.f1 x.f2 A4 c4 x.f3 _ HCI.out (Kd.C_below HI3.out HB.out) HWI.out.1 HWI.out.2.1 HWI.out.2.2.1 (HL.out.below HB.out) HWI.out.2.2.2 (by have := HS4.out; omega)).mono ?_; rintro e w8 ⟨rfl, hb⟩; have n2_ := Aside0.mk (builder_below HX.out hb); have n3_ := Aside0.mk (blk_below BK.out hb); have n4_ := Aside0.mk (below_then HB.out HB.out.size hb); clear HX BK HB hb; have HX := n2_; have BK := n3_; have HB := n4_; clear n2_ n3_ n4_)
                  | (go_at_call 36; refine (write_on bb (codeText (progsText T0 (ps.take k) ++ progLine p) (p.f4.take j)) (insLine x.f0 x.f1 x.f2 x.f3) _ HX.out (by have := HS4.out; omega)).mono ?_; rintro e w11 ⟨rfl, hx, hb, hk⟩; have n2_ := Aside0.mk hx; have n3_ := Aside0.mk (hk _ _ _ (by decide) (by decide) BK.out); have n4_ := Aside0.mk (HB.out.trans (hb.mono GE.out)); clear HX BK HB hb hx hk; have HX := n2_; have BK := n3_; have HB := n4_; clear n2_ n3_ n4_))
                go_roundw
                case rel => exact ⟨j + 1, by go_num, by omega, ⟨by rw [HC3.out, HCJ.out, HCI.out]; rfl⟩, by rw [HTX3.out]; exact HX, BK, HB⟩
                case measure => simp [intOf]; omega
              · have HCI := Aside0.mk (Bool.eq_false_iff.2 hcl)
                clear hcl
                go_wp2_with (first
                  | ((with_reducible refine gate_dst (N := 10) rfl ?_); refine box_event ?hg (N := 10) ?hd (cs := #[.int .i64 0, .int .i64 0, .int .i64 0, .slice none 0 0]) (t := 28) ?hr ?_; (case hd => rfl); (case hg => rfl); (case hr => first | (go_simp; done) | (go_simp; rfl)); intro g10 hg w4 hbox hb; have BK6 := Aside0.mk hbox; have HBW := Aside0.mk hb; have GE6 := Aside0.mk (Nat.le_of_eq hg.symm); clear hg hbox hb)
                  | (refine wpList_store_row rfl 28 (.tmp 10) (.tmp 57) rfl g10 #[.int .i64 x.f0, .int .i64 x.f1, .int .i64 x.f2, .slice A4 x.f3.length c4] rfl rfl 28 _ BK6.out (by kernel_rfl) rfl (by kernel_rfl) ?_; have n0_ : Aside0 ((w4.setRow g10 #[.int .i64 x.f0, .int .i64 x.f1, .int .i64 x.f2, .slice A4 x.f3.length c4]).heap[g10]? = some (.cells #[.int .i64 x.f0, .int .i64 x.f1, .int .i64 x.f2, .slice A4 x.f3.length c4] 28 (0, 0))) := ⟨setRow_heap _ _ _ _ _ _ BK6.out⟩; have n1_ := Aside0.mk (below_setRow HBW.out GE6.out #[.int .i64 x.f0, .int .i64 x.f1, .int .i64 x.f2, .slice A4 x.f3.length c4]); generalize w4.setRow g10 #[.int .i64 x.f0, .int .i64 x.f1, .int .i64 x.f2, .slice A4 x.f3.length c4] = w5 at n0_ n1_ ⊢; have n2_ := Aside0.mk (builder_below HX.out n1_.out); have n3_ := Aside0.mk (blk_below BK.out n1_.out); have n4_ := Aside0.mk (below_then HB.out HB.out.size n1_.out); clear BK6 HBW HX BK HB; have HX := n2_; have BK := n3_; have HB := n4_; have y0 : w5.cell? ⟨g10, 0, none⟩ = some (.int .i64 x.f0) := (blk_cell n0_.out 0).trans rfl; have y1 : w5.cell? ⟨g10, 1, none⟩ = some (.int .i64 x.f1) := (blk_cell n0_.out 1).trans rfl; have y2 : w5.cell? ⟨g10, 2, none⟩ = some (.int .i64 x.f2) := (blk_cell n0_.out 2).trans rfl; have y3 : w5.cell? ⟨g10, 3, none⟩ = some (.slice A4 x.f3.length c4) := (blk_cell n0_.out 3).trans rfl; clear n0_ n1_ n2_ n3_ n4_)
                  | (go_at_call 39; refine (ins_bad x.f0 x.f1 x.f2 A4 c4 x.f3 _ HCI.out (Kd.C_below HI3.out HB.out) HWI.out.1 HWI.out.2.1 HWI.out.2.2.1 (HL.out.below HB.out) HWI.out.2.2.2 (by have := HS4.out; omega)).mono ?_; rintro e w8 ⟨rfl, hb⟩; have n4_ := Aside0.mk (below_then HB.out HB.out.size hb); clear HX BK HB hb))
                go_ret2
                refine ⟨?_, n4_.out⟩
                have hbad : cleanProgs ps = false := by
                  rw [cleanProgs, List.all_eq_false]
                  refine ⟨p, HMEM.out, ?_⟩
                  have : cleanCode p.f4 = false := by
                    rw [cleanCode, List.all_eq_false]
                    exact ⟨x, HME3.out, by rw [HCI.out]; decide⟩
                  rw [this]; decide
                rw [printOf, hbad, if_neg (by decide)]
                rfl
            · obtain rfl : j = p.f4.length := by omega
              rw [List.take_length] at HX HCJ
              go_wp2
              go_roundw
              case rel => exact ⟨k + 1, by go_num, by omega, ⟨by rw [HC1.out, HCL.out, HCJ.out]; rfl⟩, by rw [HTX.out]; exact HX, BK, HB⟩
              case measure => simp [intOf]; omega
        · obtain rfl : k = ps.length := by omega
          rw [List.take_length] at HX HCL
          go_wp2_with (go_at_call 40; refine (string_on bb _ _ HX.out).mono ?_; rintro e w12 ⟨rfl, hb⟩; have HBZ := Aside0.mk (HB.out.trans (hb.mono GE.out)); clear hb)
          go_ret2
          refine ⟨?_, HBZ.out⟩
          rw [printOf, HCL.out, if_pos rfl, fullText, ← HT0.out]
          rfl
end Go.Proofs.YtfkfgjmhcfagkaaDoor.Given
end
section
namespace Go.Proofs.YtfkfgjmhcfagkaaDoor.Given
open Go.RowKit Go.Proofs.YtfkfgjmhcfagkaaDoorW.PrintWords Go.Proofs.YtfkfgjmhcfagkaaDoorW.PrintLast Go.Proofs.YtfkfgjmhcfagkaaDoorW.PrintMore Go.Proofs.YtfkfgjmhcfagkaaDoor.Print
set_option linter.unusedVariables false
set_option linter.unusedSimpArgs false
def space : ByteArray := ⟨#[32]⟩
def wordsL (s : ByteArray) : List ByteArray := Lib.splitB space 0 (Lib.countB s space) s
def numOf (t : ByteArray) : Option Int := match Lib.atoiAll t.data.toList with
  | .ok v => if (itoaB v).toList = t.toList then some v else none
  | _ => none
def numsIn : List ByteArray → Option (List Int)
  | [] => some []
  | t :: r => match numOf t, numsIn r with
    | some v, some l => some (v :: l)
    | _, _ => none
def readOf (s : ByteArray) : Option (ByteArray × List Int) := (numsIn (wordsL s).tail).map fun l => ((wordsL s).headD ⟨#[]⟩, l)
theorem split_any (s : ByteArray) (n : Nat) (hn : Lib.countB s space = n) (w : World) (hs : s.size < 4294967281) (hL : LW w) :
    Calls Tryd.prog 69 #[.string s, .string ⟨#[32]⟩] w fun e w' => e = .returned (.slice (some ⟨w.heap.size, 0, none⟩) (n + 1 : Nat) (n + 1)) ∧ w'.heap[w.heap.size]? = some (.cells ((wordsL s).map Value.string).toArray 9 (0, 0)) ∧ Below w.heap.size w w' := by
  obtain ⟨m, hm⟩ := hL.2.1
  refine (Tryd.strings_Split s space m w hs hm (by decide)).mono ?_
  rintro e w' ⟨rfl, rfl⟩
  exact ⟨by rw [hn], blk_new _ _, below_alloc (Below.refl _ _) _⟩
theorem words_length (s : ByteArray) (n : Nat) (hn : Lib.countB s space = n) : (wordsL s).length = n + 1 := by
  rw [wordsL, hn]
  exact Lib.splitB_all space (by decide) 0 n s hn
theorem atoi_good (t : ByteArray) (v : Int) (h : numOf t = some v) (w : World) (hsz : t.size ≤ 281474976710656) :
    Calls Tryd.prog 70 #[.string t] w fun e w' => e = .returned (.tuple #[.int .i64 v, .nilIface]) ∧ Below w.heap.size w w' := by
  unfold numOf at h
  split at h
  · rename_i v' hv
    split at h
    · injection h with h
      subst h
      refine (Tryd.strconv_Atoi_ok t (by omega) v' hv w).mono ?_
      rintro e w' ⟨rfl, h | ⟨u, h⟩⟩
      · exact ⟨rfl, h ▸ Below.refl _ _⟩
      · exact ⟨rfl, h ▸ bytes_below (Below.refl _ _) (Nat.le_refl _) 5 u⟩
    · cases h
  · cases h
theorem numOf_some {t : ByteArray} {v : Int} (h : numOf t = some v) : (-9223372036854775808 ≤ v ∧ v ≤ 9223372036854775807) ∧ (itoaB v).toList = t.toList := by
  unfold numOf at h
  split at h
  · rename_i v' hv
    split at h
    · rename_i hq
      injection h with h
      subst h
      exact ⟨Lib.atoiAll_bounds hv, hq⟩
    · cases h
  · cases h
theorem splitB_size (sep : ByteArray) : ∀ (k : Nat) (s t : ByteArray), t ∈ Lib.splitB sep 0 k s → t.size ≤ s.size
  | 0, s, t, h => by
    simp only [Lib.splitB, List.mem_singleton] at h
    exact h ▸ Nat.le_refl _
  | k + 1, s, t, h => by
    rw [Lib.splitB] at h
    split at h
    · simp only [List.mem_singleton] at h
      exact h ▸ Nat.le_refl _
    · rcases List.mem_cons.1 h with rfl | h
      · rw [ByteArray.size_extract]; omega
      · refine Nat.le_trans (splitB_size sep k _ t h) ?_
        rw [ByteArray.size_extract]; omega
theorem word_size (s t : ByteArray) (h : t ∈ wordsL s) : t.size ≤ s.size := splitB_size _ _ s t h
theorem count_le (s : ByteArray) : Lib.countB s space ≤ s.size := Lib.countB_le space (by decide) s.size s (Nat.le_refl _)
theorem nums_get : ∀ (l : List ByteArray) (ns : List Int), numsIn l = some ns → ns.length = l.length ∧ ∀ (k : Nat) (t : ByteArray), l[k]? = some t → ∃ v, numOf t = some v ∧ ns[k]? = some v
  | [], ns, h => by
    injection h with h
    subst h
    exact ⟨rfl, fun k t hk => by simp at hk⟩
  | a :: r, ns, h => by
    unfold numsIn at h
    split at h
    · rename_i v l hv hl
      injection h with h
      subst h
      obtain ⟨h1, h2⟩ := nums_get r l hl
      refine ⟨by simp [h1], fun k t hk => ?_⟩
      cases k with
      | zero =>
        injection hk with hk
        subst hk
        exact ⟨v, hv, rfl⟩
      | succ k => exact h2 k t hk
    · cases h
set_option maxRecDepth 100000 in
set_option maxHeartbeats 4000000 in
theorem read_some (s : ByteArray) (n : Nat) (hn : Lib.countB s space = n + 1) (wd : ByteArray) (ns : List Int) (w : World) (hs : s.size < 4294967281) (hL : LW w) (h : readOf s = some (wd, ns)) :
    Calls Tryd.prog 61 #[.string s] w fun e w' => ∃ v, e = .returned (.tuple #[.string wd, v, .bool true]) ∧ Kd.R (Kd.int .i64) 3 w' w.heap.size (fun _ => True) v ns ∧ Below w.heap.size w w' := by
  have HL := Aside0.mk hL
  have HN := Aside0.mk hn
  have HH := Aside0.mk h
  clear hL hn h
  go_enter Tryd.func61, Tryd.ntmps61
  go_wp2_with (go_at_call 69; refine (split_any s (n + 1) HN.out _ hs HL.out).mono ?_; rintro e w1 ⟨rfl, hbk, hb⟩; have BK := Aside0.mk hbk; have HB := Aside0.mk hb; clear hbk hb)
  obtain ⟨ws, hws⟩ : ∃ ws, ws = wordsL s := ⟨_, rfl⟩
  have hlen := words_length s (n + 1) HN.out
  have hh := HH.out
  unfold readOf at hh
  rw [← hws] at hh hlen BK
  obtain ⟨l0, hl0, hl1⟩ := Option.map_eq_some_iff.1 hh
  injection hl1 with hw hl1
  subst hl1
  obtain ⟨hnl, hnum⟩ := nums_get _ _ hl0
  have hnl : l0.length = n + 1 := by rw [hnl]; simp [hlen]
  have HNUM := Aside0.mk hnum
  have HNL := Aside0.mk hnl
  have HW := Aside0.mk hw
  have HLEN := Aside0.mk hlen
  have HSZ : Aside0 (∀ t ∈ ws, t.size ≤ 281474976710656) := ⟨fun t ht => by
    rw [hws] at ht
    exact Nat.le_trans (word_size s t ht) (by omega)⟩
  have HNS : Aside0 (n + 1 ≤ 4294967281) := ⟨by
    have := count_le s
    rw [HN.out] at this
    omega⟩
  clear hws hlen hh hl0 hw hnl hnum HH
  go_loopw [6, 16] (fun v6 i wr => ∃ k : Nat, i = .int .i64 k ∧ k ≤ n + 1 ∧ Aside0 (Kd.R (Kd.int .i64) 3 wr w1.heap.size (fun _ => True) v6 (l0.take k)) ∧ Aside0 (Below w1.heap.size w1 wr)) (fun _ i _ => n + 1 - (intOf i).toNat)
  case atStart => exact ⟨0, rfl, by omega, ⟨Kd.R_nil _ _ _ _ _⟩, ⟨Below.refl _ _⟩⟩
  case round =>
    obtain ⟨k, rfl, hk, HO, HB1⟩ := hrel
    have hns := HNS.out
    by_cases hlt : k < n + 1
    · obtain ⟨t, ht⟩ : ∃ t, ws[k + 1]? = some t := ⟨_, List.getElem?_eq_getElem (by rw [HLEN.out]; omega)⟩
      obtain ⟨v, hv, hv2⟩ := HNUM.out k t (by rw [List.getElem?_tail]; exact ht)
      have x0 : wr.cell? ⟨w.heap.size, 1 + k, none⟩ = some (.string t) := by
        rw [blk_cell (blk_below BK.out HB1.out) (1 + k), Nat.add_comm 1 k]
        simp [ht]
      have HV := Aside0.mk hv
      have hq : ((itoaB v).toList == t.toList) = true := by simpa using (numOf_some hv).2
      have HQ := Aside0.mk (numOf_some hv).1
      have HT2 : Aside0 (l0.take (k + 1) = l0.take k ++ [v]) := ⟨by rw [List.take_add_one, hv2]; rfl⟩
      have HTS := Aside0.mk (HSZ.out t (List.mem_of_getElem? ht))
      have HTL : Aside0 ((l0.take k).length ≤ 4294967281) := ⟨by have := HNL.out; have := HNS.out; rw [List.length_take]; omega⟩
      clear ht hv hv2
      go_wp2_with (first
        | (go_at_call 70; refine (atoi_good t v HV.out _ HTS.out).mono ?_; rintro e w2 ⟨rfl, hb⟩; have n1_ := Aside0.mk (Kd.R_below HO.out hb); have n3_ := Aside0.mk (below_then HB1.out HB1.out.size hb); clear HO HB1 hb; have HO := n1_; have HB1 := n3_; clear n1_ n3_)
        | (go_at_call 54; refine (itoa_any v HQ.out _ (HL.out.below (below_then HB.out HB.out.size HB1.out))).mono ?_; rintro e w3 ⟨rfl, hb⟩; have n1_ := Aside0.mk (Kd.R_below HO.out hb); have n3_ := Aside0.mk (below_then HB1.out HB1.out.size hb); clear HO HB1 hb; have HO := n1_; have HB1 := n3_; clear n1_ n3_)
        | ((with_reducible refine gate_builtin (b := .append) (xs := #[.tmp 33, .tmp 35]) rfl ?_); at_builtin; refine Kd.R_append (Kd.int .i64) (w0 := w1) w1.heap.size rfl (.tmp 33) (.tmp 35) 26 3 (.int .i64 0) 8 rfl Tryd.underlying26 info3 rfl (by decide) (by omega) u6 (l0.take k) v [.int .i64 v] (fun _ => True) (fun _ => False) rfl rfl ?aP (fun _ hk => hk.elim) ?aF ?aO ?aB ?aS ?aL ?_; (case aP => exact rfl); (case aB => exact HB1.out); (case aF => exact (fun _ _ => trivial)); (case aO => exact HO.out); (case aS => exact HB1.out.size); (case aL => have := HTL.out; omega); intro v7 w7 ho hb hg_ hat_; clear hg_ hat_; have n1_ : Aside0 (Kd.R (Kd.int .i64) 3 w7 w1.heap.size (fun _ => True) v7 (l0.take k ++ [v])) := ⟨ho⟩; have n3_ := Aside0.mk hb; clear HO HB1 ho hb; have HO := n1_; have HB1 := n3_; clear n1_ n3_))
      go_roundw
      case rel => exact ⟨k + 1, by go_num, by omega, by rw [HT2.out]; exact HO, HB1⟩
      case measure => simp [intOf]; omega
    · obtain rfl : k = n + 1 := by omega
      obtain ⟨t, ht⟩ : ∃ t, ws[0]? = some t := ⟨_, List.getElem?_eq_getElem (by rw [HLEN.out]; omega)⟩
      have x0 : wr.cell? ⟨w.heap.size, 0, none⟩ = some (.string t) := by
        rw [blk_cell (blk_below BK.out HB1.out) 0]
        simp [ht]
      have hwd : t = wd := by
        rw [← HW.out, List.headD_eq_head?_getD, List.head?_eq_getElem?, ht]
        rfl
      subst hwd
      clear ht
      go_wp2
      go_ret3
      refine ⟨_, rfl, ?_, below_then HB.out HB.out.size HB1.out⟩
      have h := HO.out
      rw [← HNL.out, List.take_length] at h
      exact Kd.R_lower h HB.out.size
end Go.Proofs.YtfkfgjmhcfagkaaDoor.Given
end
section
namespace Go.Proofs.YtfkfgjmhcfagkaaDoor.Given
open Go.RowKit Go.Proofs.YtfkfgjmhcfagkaaDoorW.PrintWords Go.Proofs.YtfkfgjmhcfagkaaDoorW.PrintLast Go.Proofs.YtfkfgjmhcfagkaaDoorW.PrintMore Go.Proofs.YtfkfgjmhcfagkaaDoor.Print
set_option linter.unusedVariables false
set_option linter.unusedSimpArgs false
set_option maxRecDepth 100000 in
set_option maxHeartbeats 4000000 in
theorem read_one (s : ByteArray) (hn : Lib.countB s space = 0) (w : World) (hs : s.size < 4294967281) (hL : LW w) :
    Calls Tryd.prog 61 #[.string s] w fun e w' => e = .returned (.tuple #[.string s, .slice none 0 0, .bool true]) ∧ Below w.heap.size w w' := by
  have HL := Aside0.mk hL
  have HN := Aside0.mk hn
  have hws : wordsL s = [s] := by rw [wordsL, hn]; rfl
  clear hL hn
  go_enter Tryd.func61, Tryd.ntmps61
  go_wp2_with (go_at_call 69; refine (split_any s 0 HN.out _ hs HL.out).mono ?_; rintro e w1 ⟨rfl, hbk, hb⟩; rw [hws] at hbk; have BK := Aside0.mk hbk; have HB := Aside0.mk hb; clear hbk hb)
  go_loopw [6, 16] (fun v6 i wr => v6 = .slice none 0 0 ∧ i = .int .i64 0 ∧ wr = w1) (fun _ _ _ => 0)
  case atStart => exact ⟨rfl, rfl, rfl⟩
  case round =>
    obtain ⟨rfl, rfl, rfl⟩ := hrel
    have x0 : wr.cell? ⟨w.heap.size, 0, none⟩ = some (.string s) := (blk_cell BK.out 0).trans rfl
    go_wp2
    go_ret3
    exact ⟨rfl, HB.out⟩
theorem atoi_bad (t : ByteArray) (h : numOf t = none) (w : World) (hL : LW w) (hsz : t.size ≤ 281474976710656) :
    Calls Tryd.prog 70 #[.string t] w fun e w' => ∃ (v : Int) (er : Value), e = .returned (.tuple #[.int .i64 v, er]) ∧ ((∃ a, er = .iface 126 (.pointer (some a))) ∨ er = .nilIface ∧ (-9223372036854775808 ≤ v ∧ v ≤ 9223372036854775807) ∧ ((itoaB v).toList == t.toList) = false) ∧ Below w.heap.size w w' := by
  unfold numOf at h
  split at h
  · rename_i v hv
    split at h
    · cases h
    · rename_i hq
      refine (Tryd.strconv_Atoi_ok t (by omega) v hv w).mono ?_
      rintro e w' ⟨rfl, h | ⟨u, h⟩⟩
      · exact ⟨v, _, rfl, .inr ⟨rfl, Lib.atoiAll_bounds hv, by simpa using hq⟩, h ▸ Below.refl _ _⟩
      · exact ⟨v, _, rfl, .inr ⟨rfl, Lib.atoiAll_bounds hv, by simpa using hq⟩, h ▸ bytes_below (Below.refl _ _) (Nat.le_refl _) 5 u⟩
  · rename_i hne
    cases hq : Lib.atoiAll t.data.toList
    · exact absurd hq (hne _)
    · obtain ⟨ev, hv, hev⟩ := hL.2.2.1
      refine (Tryd.strconv_Atoi_syntax t hsz hq ev w hv hev).mono ?_
      rintro e w' ⟨N, rfl, _, _, hb⟩
      exact ⟨_, _, rfl, .inl ⟨_, rfl⟩, hb⟩
    · obtain ⟨ev, hv, hev⟩ := hL.2.2.2
      refine (Tryd.strconv_Atoi_range t hsz hq ev w hv hev).mono ?_
      rintro e w' ⟨N, rfl, _, _, hb⟩
      exact ⟨_, _, rfl, .inl ⟨_, rfl⟩, hb⟩
end Go.Proofs.YtfkfgjmhcfagkaaDoor.Given
end
section
namespace Go.Proofs.YtfkfgjmhcfagkaaDoor.Given
open Go.RowKit Go.Proofs.YtfkfgjmhcfagkaaDoorW.PrintWords Go.Proofs.YtfkfgjmhcfagkaaDoorW.PrintLast Go.Proofs.YtfkfgjmhcfagkaaDoorW.PrintMore Go.Proofs.YtfkfgjmhcfagkaaDoor.Print
set_option linter.unusedVariables false
set_option linter.unusedSimpArgs false
theorem nums_none : ∀ (l : List ByteArray), numsIn l = none → ∃ (j : Nat) (t : ByteArray), l[j]? = some t ∧ numOf t = none ∧ ∀ (k : Nat) (u : ByteArray), k < j → l[k]? = some u → ∃ v, numOf u = some v
  | [], h => by cases h
  | a :: r, h => by
    unfold numsIn at h
    cases ha : numOf a with
    | none => exact ⟨0, a, rfl, ha, fun k u hk => absurd hk (Nat.not_lt_zero _)⟩
    | some v =>
      cases hr : numsIn r with
      | some l => rw [ha, hr] at h; cases h
      | none =>
        obtain ⟨j, t, h1, h2, h3⟩ := nums_none r hr
        refine ⟨j + 1, t, h1, h2, fun k u hk hu => ?_⟩
        cases k with
        | zero => injection hu with hu; exact ⟨v, hu ▸ ha⟩
        | succ k => exact h3 k u (by omega) hu
set_option maxRecDepth 100000 in
set_option maxHeartbeats 4000000 in
theorem read_none (s : ByteArray) (n : Nat) (hn : Lib.countB s space = n + 1) (w : World) (hs : s.size < 4294967281) (hL : LW w) (h : readOf s = none) :
    Calls Tryd.prog 61 #[.string s] w fun e w' => e = .returned (.tuple #[.string ⟨#[]⟩, .slice none 0 0, .bool false]) ∧ Below w.heap.size w w' := by
  have HL := Aside0.mk hL
  have HN := Aside0.mk hn
  have HH := Aside0.mk h
  clear hL hn h
  go_enter Tryd.func61, Tryd.ntmps61
  go_wp2_with (go_at_call 69; refine (split_any s (n + 1) HN.out _ hs HL.out).mono ?_; rintro e w1 ⟨rfl, hbk, hb⟩; have BK := Aside0.mk hbk; have HB := Aside0.mk hb; clear hbk hb)
  obtain ⟨ws, hws⟩ : ∃ ws, ws = wordsL s := ⟨_, rfl⟩
  have hlen := words_length s (n + 1) HN.out
  have hh := HH.out
  unfold readOf at hh
  rw [← hws] at hh hlen BK
  obtain ⟨j, tb, hj1, hj2, hj3⟩ := nums_none _ (Option.map_eq_none_iff.1 hh)
  have hjn : j < n + 1 := by
    have := (List.getElem?_eq_some_iff.1 hj1).1
    simp [hlen] at this
    omega
  have HJ1 := Aside0.mk hj1
  have HJ2 := Aside0.mk hj2
  have HJ3 := Aside0.mk hj3
  have HLEN := Aside0.mk hlen
  have HSZ : Aside0 (∀ t ∈ ws, t.size ≤ 281474976710656) := ⟨fun t ht => by
    rw [hws] at ht
    exact Nat.le_trans (word_size s t ht) (by omega)⟩
  have HNS : Aside0 (n + 1 ≤ 4294967281) := ⟨by
    have := count_le s
    rw [HN.out] at this
    omega⟩
  clear hws hlen hh hj1 hj2 hj3 HH
  go_loopw [6, 16] (fun v6 i wr => ∃ (k : Nat) (acc : List Int), i = .int .i64 k ∧ k ≤ j ∧ acc.length = k ∧ Aside0 (Kd.R (Kd.int .i64) 3 wr w1.heap.size (fun _ => True) v6 acc) ∧ Aside0 (Below w1.heap.size w1 wr)) (fun _ i _ => n + 1 - (intOf i).toNat)
  case atStart => exact ⟨0, [], rfl, by omega, rfl, ⟨Kd.R_nil _ _ _ _ _⟩, ⟨Below.refl _ _⟩⟩
  case round =>
    obtain ⟨k, acc, rfl, hk, hacc, HO, HB1⟩ := hrel
    have hns := HNS.out
    have HTL : Aside0 (acc.length ≤ 4294967281) := ⟨by omega⟩
    have HAC := Aside0.mk hacc
    clear hacc
    by_cases hlt : k < j
    · obtain ⟨t, ht⟩ : ∃ t, ws[k + 1]? = some t := ⟨_, List.getElem?_eq_getElem (by rw [HLEN.out]; omega)⟩
      obtain ⟨v, hv⟩ := HJ3.out k t hlt (by rw [List.getElem?_tail]; exact ht)
      have x0 : wr.cell? ⟨w.heap.size, 1 + k, none⟩ = some (.string t) := by
        rw [blk_cell (blk_below BK.out HB1.out) (1 + k), Nat.add_comm 1 k]
        simp [ht]
      have HV := Aside0.mk hv
      have hq : ((itoaB v).toList == t.toList) = true := by simpa using (numOf_some hv).2
      have HQ := Aside0.mk (numOf_some hv).1
      have HTS := Aside0.mk (HSZ.out t (List.mem_of_getElem? ht))
      have hkn : k < n + 1 := by omega
      clear ht hv
      go_wp2_with (first
        | (go_at_call 70; refine (atoi_good t v HV.out _ HTS.out).mono ?_; rintro e w2 ⟨rfl, hb⟩; have n1_ := Aside0.mk (Kd.R_below HO.out hb); have n3_ := Aside0.mk (below_then HB1.out HB1.out.size hb); clear HO HB1 hb; have HO := n1_; have HB1 := n3_; clear n1_ n3_)
        | (go_at_call 54; refine (itoa_any v HQ.out _ (HL.out.below (below_then HB.out HB.out.size HB1.out))).mono ?_; rintro e w3 ⟨rfl, hb⟩; have n1_ := Aside0.mk (Kd.R_below HO.out hb); have n3_ := Aside0.mk (below_then HB1.out HB1.out.size hb); clear HO HB1 hb; have HO := n1_; have HB1 := n3_; clear n1_ n3_)
        | ((with_reducible refine gate_builtin (b := .append) (xs := #[.tmp 33, .tmp 35]) rfl ?_); at_builtin; refine Kd.R_append (Kd.int .i64) (w0 := w1) w1.heap.size rfl (.tmp 33) (.tmp 35) 26 3 (.int .i64 0) 8 rfl Tryd.underlying26 info3 rfl (by decide) (by omega) u6 acc v [.int .i64 v] (fun _ => True) (fun _ => False) rfl rfl ?aP (fun _ hk => hk.elim) ?aF ?aO ?aB ?aS ?aL ?_; (case aP => exact rfl); (case aB => exact HB1.out); (case aF => exact (fun _ _ => trivial)); (case aO => exact HO.out); (case aS => exact HB1.out.size); (case aL => have := HTL.out; omega); intro v7 w7 ho hb hg_ hat_; clear hg_ hat_; have n1_ : Aside0 (Kd.R (Kd.int .i64) 3 w7 w1.heap.size (fun _ => True) v7 (acc ++ [v])) := ⟨ho⟩; have n3_ := Aside0.mk hb; clear HO HB1 ho hb; have HO := n1_; have HB1 := n3_; clear n1_ n3_))
      go_roundw
      case rel => exact ⟨k + 1, acc ++ [v], by go_num, by omega, by rw [List.length_append, HAC.out]; rfl, HO, HB1⟩
      case measure => simp [intOf]; omega
    · obtain rfl : k = j := by omega
      have ht : ws[k + 1]? = some tb := by rw [← List.getElem?_tail]; exact HJ1.out
      have x0 : wr.cell? ⟨w.heap.size, 1 + k, none⟩ = some (.string tb) := by
        rw [blk_cell (blk_below BK.out HB1.out) (1 + k), Nat.add_comm 1 k]
        simp [ht]
      have HTS := Aside0.mk (HSZ.out tb (List.mem_of_getElem? ht))
      clear ht
      go_wp2_with (first
        | (go_at_call 70; refine (atoi_bad tb HJ2.out _ (HL.out.below (below_then HB.out HB.out.size HB1.out)) HTS.out).mono ?_; rintro e w2 ⟨v, er, rfl, her, hb⟩; have n3_ := Aside0.mk (below_then HB1.out HB1.out.size hb); have HV := Aside0.mk her; rcases her with ⟨a, rfl⟩ | ⟨rfl, hv1, hv2⟩)
        | (go_at_call 54; refine (itoa_any _ hv1 _ (HL.out.below (below_then HB.out HB.out.size n3_.out))).mono ?_; rintro e w3 ⟨rfl, hb3⟩; have n4_ := Aside0.mk (below_then n3_.out n3_.out.size hb3)))
      all_goals go_ret3
      all_goals first
        | exact ⟨rfl, below_then HB.out HB.out.size n4_.out⟩
        | exact ⟨rfl, below_then HB.out HB.out.size n3_.out⟩
end Go.Proofs.YtfkfgjmhcfagkaaDoor.Given
end
section
namespace Go.Proofs.YtfkfgjmhcfagkaaDoor.Given
open Go.RowKit Go.Proofs.YtfkfgjmhcfagkaaDoorW.PrintWords Go.Proofs.YtfkfgjmhcfagkaaDoorW.PrintLast Go.Proofs.YtfkfgjmhcfagkaaDoorW.PrintMore Go.Proofs.YtfkfgjmhcfagkaaDoor.Print
set_option linter.unusedVariables false
set_option linter.unusedSimpArgs false
theorem read_yes (s : ByteArray) (wd : ByteArray) (ns : List Int) (w : World) (hs : s.size < 4294967281) (hL : LW w) (h : readOf s = some (wd, ns)) :
    Calls Tryd.prog 61 #[.string s] w fun e w' => ∃ v, e = .returned (.tuple #[.string wd, v, .bool true]) ∧ Kd.R (Kd.int .i64) 3 w' w.heap.size (fun _ => True) v ns ∧ Below w.heap.size w w' := by
  cases hc : Lib.countB s space with
  | succ n => exact read_some s n hc wd ns w hs hL h
  | zero =>
    have hws : wordsL s = [s] := by rw [wordsL, hc]; rfl
    unfold readOf at h
    rw [hws] at h
    injection h with h
    injection h with h1 h2
    subst h2
    refine (read_one s hc w hs hL).mono ?_
    rintro e w' ⟨rfl, hb⟩
    exact ⟨_, by rw [← h1]; rfl, Kd.R_nil _ _ _ _ _, hb⟩
theorem read_no (s : ByteArray) (w : World) (hs : s.size < 4294967281) (hL : LW w) (h : readOf s = none) :
    Calls Tryd.prog 61 #[.string s] w fun e w' => e = .returned (.tuple #[.string ⟨#[]⟩, .slice none 0 0, .bool false]) ∧ Below w.heap.size w w' := by
  cases hc : Lib.countB s space with
  | succ n => exact read_none s n hc w hs hL h
  | zero =>
    have hws : wordsL s = [s] := by rw [wordsL, hc]; rfl
    unfold readOf at h
    rw [hws] at h
    cases h
end Go.Proofs.YtfkfgjmhcfagkaaDoor.Given
end
section
namespace Go.Proofs.YtfkfgjmhcfagkaaDoor.Given
open Go.RowKit Go.Proofs.YtfkfgjmhcfagkaaDoorW.PrintWords Go.Proofs.YtfkfgjmhcfagkaaDoorW.PrintLast Go.Proofs.YtfkfgjmhcfagkaaDoorW.PrintMore Go.Proofs.YtfkfgjmhcfagkaaDoor.Print
set_option linter.unusedVariables false
set_option linter.unusedSimpArgs false
theorem dec_digit (d : Nat) (h : d < 10) : (UInt8.ofNat (48 + d)).toNat = 48 + d := by
  rw [UInt8.toNat_ofNat_of_lt' (by show 48 + d < 256; omega)]
theorem parse_dec : ∀ (u : Nat) (r : List UInt8), u < 18446744073709551616 → Lib.parseUint10 0 (Lib.decDigits u ++ r) = Lib.parseUint10 u r := by
  intro u
  induction u using Nat.strongRecOn with
  | ind u ih =>
    intro r hu
    rw [Lib.decDigits]
    by_cases h : u < 10
    · rw [dif_pos h, List.singleton_append, Lib.parseUint10, dec_digit u h, if_pos (by omega), if_neg (by omega), if_neg (by omega)]
      congr 1
      omega
    · rw [dif_neg h, List.append_assoc, ih (u / 10) (by omega) _ (by omega), List.singleton_append, Lib.parseUint10, dec_digit _ (by omega), if_pos (by omega), if_neg (by omega), if_neg (by omega)]
      congr 1
      omega
theorem dec_ne : ∀ (u : Nat), Lib.decDigits u ≠ [] := by
  intro u
  rw [Lib.decDigits]
  split
  · simp
  · simp
theorem dec_bytes : ∀ (u : Nat) (b : UInt8), b ∈ Lib.decDigits u → 48 ≤ b.toNat ∧ b.toNat ≤ 57 := by
  intro u
  induction u using Nat.strongRecOn with
  | ind u ih =>
    intro b hb
    rw [Lib.decDigits] at hb
    by_cases h : u < 10
    · rw [dif_pos h, List.mem_singleton] at hb
      subst hb
      rw [dec_digit u h]
      omega
    · rw [dif_neg h, List.mem_append, List.mem_singleton] at hb
      rcases hb with hb | rfl
      · exact ih (u / 10) (by omega) b hb
      · rw [dec_digit _ (by omega)]
        omega
theorem mag_dec (u : Nat) (hu : u < 18446744073709551616) : Lib.parseMag (Lib.decDigits u) = .ok u := by
  unfold Lib.parseMag
  rw [if_neg (dec_ne u)]
  have := parse_dec u [] hu
  rw [List.append_nil] at this
  rw [this]
  rfl
theorem atoi_itoa (n : Int) (h : -9223372036854775808 ≤ n ∧ n ≤ 9223372036854775807) : Lib.atoiAll (Lib.itoa n) = .ok n := by
  unfold Lib.itoa
  by_cases hn : n < 0
  · rw [if_pos hn]
    unfold Lib.atoiAll
    simp only [show (45 : UInt8).toNat = 45 from rfl, or_true, if_true, not_true, false_and, if_false, true_and]
    rw [mag_dec _ (by omega)]
    simp only
    rw [if_neg (by omega)]
    congr 1
    omega
  · rw [if_neg hn]
    have hm := mag_dec n.toNat (by omega)
    have hb := dec_bytes n.toNat
    cases hd : Lib.decDigits n.toNat with
    | nil => exact absurd hd (dec_ne _)
    | cons c r =>
      rw [hd] at hm hb
      have hc := hb c (by simp)
      unfold Lib.atoiAll
      simp only
      rw [if_neg (by omega), hm]
      simp only
      rw [if_neg (by omega), if_neg (by omega), if_neg (by omega)]
      congr 1
      omega
theorem itoa_bytes (n : Int) (b : UInt8) (hb : b ∈ Lib.itoa n) : b ≠ 32 ∧ b ≠ 10 := by
  unfold Lib.itoa at hb
  have key : 45 ≤ b.toNat := by
    split at hb
    · rcases List.mem_cons.1 hb with rfl | hb
      · decide
      · have := (dec_bytes _ b hb).1
        omega
    · have := (dec_bytes _ b hb).1
      omega
  constructor
  · rintro rfl
    exact absurd key (by decide)
  · rintro rfl
    exact absurd key (by decide)
theorem num_itoa (n : Int) (h : -9223372036854775808 ≤ n ∧ n ≤ 9223372036854775807) : numOf (itoaB n) = some n := by
  unfold numOf
  have e : (itoaB n).data.toList = Lib.itoa n := by simp [itoaB]
  rw [e, atoi_itoa n h]
  simp
theorem idx_hit (c : UInt8) (b : List UInt8) : ∀ (a : List UInt8), c ∉ a → Lib.index (a ++ c :: b) [c] = a.length
  | [], _ => by simp [Lib.index, List.isPrefixOf]
  | x :: a, h => by
    have hx : c ≠ x := fun e => h (by simp [e])
    have ih := idx_hit c b a (fun hm => h (by simp [hm]))
    rw [List.cons_append, Lib.index, ih]
    have hp : ([c] : List UInt8).isPrefixOf (x :: (a ++ c :: b)) = false := by simp [List.isPrefixOf, hx]
    rw [if_neg (by rw [hp]; decide)]
    rw [if_neg (by simp)]
    simp
theorem idx_miss (c : UInt8) : ∀ (a : List UInt8), c ∉ a → Lib.index a [c] = -1
  | [], _ => by simp [Lib.index]
  | x :: a, h => by
    have hx : c ≠ x := fun e => h (by simp [e])
    have ih := idx_miss c a (fun hm => h (by simp [hm]))
    rw [Lib.index, ih]
    have hp : ([c] : List UInt8).isPrefixOf (x :: a) = false := by simp [List.isPrefixOf, hx]
    rw [if_neg (by rw [hp]; decide)]
    rfl
theorem cut_hit (a b : List UInt8) (h : (10 : UInt8) ∉ a) : Lib.cut (a ++ 10 :: b) [10] = (a, b, true) := by
  unfold Lib.cut
  rw [idx_hit 10 b a h, if_pos (by omega)]
  have e : ((a.length : Int)).toNat = a.length := by omega
  rw [e]
  simp
theorem mem_split (c : UInt8) : ∀ (l : List UInt8), c ∉ l ∨ ∃ a b, l = a ++ c :: b ∧ c ∉ a
  | [] => .inl (by simp)
  | x :: l => by
    by_cases hx : x = c
    · exact .inr ⟨[], l, by rw [hx]; rfl, by simp⟩
    · rcases mem_split c l with h | ⟨a, b, rfl, h⟩
      · exact .inl (by simp [h, Ne.symm hx])
      · exact .inr ⟨x :: a, b, rfl, by simp [h, Ne.symm hx]⟩
theorem cut_true (t : List UInt8) (h : (Lib.cut t [10]).2.2 = true) : t = (Lib.cut t [10]).1 ++ 10 :: (Lib.cut t [10]).2.1 ∧ (10 : UInt8) ∉ (Lib.cut t [10]).1 := by
  rcases mem_split 10 t with hm | ⟨a, b, rfl, hm⟩
  · unfold Lib.cut at h
    rw [idx_miss 10 t hm, if_neg (by decide)] at h
    cases h
  · rw [cut_hit a b hm]
    exact ⟨rfl, hm⟩
def joinS (w : List UInt8) (ws : List (List UInt8)) : List UInt8 := w ++ ws.flatMap (fun x => 32 :: x)
theorem join_decomp : ∀ (l : List UInt8), ∃ w ws, l = joinS w ws ∧ (32 : UInt8) ∉ w ∧ ∀ x ∈ ws, (32 : UInt8) ∉ x
  | [] => ⟨[], [], rfl, by simp, by simp⟩
  | c :: l => by
    obtain ⟨w, ws, rfl, hw, hws⟩ := join_decomp l
    by_cases hc : c = 32
    · subst hc
      exact ⟨[], w :: ws, by simp [joinS], by simp, fun x hx => (List.mem_cons.1 hx).elim (fun e => e ▸ hw) (hws x)⟩
    · exact ⟨c :: w, ws, by simp [joinS], by simp [hw, Ne.symm hc], hws⟩
theorem join_cons (w x : List UInt8) (ws : List (List UInt8)) : joinS w (x :: ws) = w ++ 32 :: joinS x ws := by simp [joinS]
theorem split_join : ∀ (ws : List (List UInt8)) (w : List UInt8), (32 : UInt8) ∉ w → (∀ x ∈ ws, (32 : UInt8) ∉ x) → Lib.splitK [32] 0 ws.length (joinS w ws) = w :: ws
  | [], w, _, _ => by simp [Lib.splitK, joinS]
  | x :: ws, w, hw, hws => by
    have ih := split_join ws x (hws x (by simp)) (fun y hy => hws y (by simp [hy]))
    rw [List.length_cons, Lib.splitK, join_cons, idx_hit 32 _ w hw]
    rw [if_neg (by simp)]
    have e : ((w.length : Int)).toNat = w.length := by omega
    rw [e]
    simp [ih]
theorem count_join : ∀ (ws : List (List UInt8)) (w : List UInt8) (fuel : Nat), (32 : UInt8) ∉ w → (∀ x ∈ ws, (32 : UInt8) ∉ x) → ws.length < fuel → Lib.countFrom [32] fuel (joinS w ws) = ws.length
  | [], w, fuel + 1, hw, _, _ => by
    unfold Lib.countFrom
    have e : joinS w [] = w := by simp [joinS]
    rw [e, idx_miss 32 w hw]
    rfl
  | x :: ws, w, fuel + 1, hw, hws, hf => by
    have ih := count_join ws x fuel (hws x (by simp)) (fun y hy => hws y (by simp [hy])) (by simpa using hf)
    unfold Lib.countFrom
    rw [join_cons, idx_hit 32 _ w hw, if_neg (by simp)]
    have e : ((w.length : Int)).toNat = w.length := by omega
    rw [e]
    have e2 : (w ++ 32 :: joinS x ws).drop (w.length + ([32] : List UInt8).length) = joinS x ws := by simp
    rw [e2, ih, List.length_cons, Nat.add_comm]
theorem join_length (ws : List (List UInt8)) : ∀ (w : List UInt8), ws.length ≤ (joinS w ws).length := by
  induction ws with
  | nil => intro w; simp
  | cons x ws ih =>
    intro w
    rw [join_cons]
    have := ih x
    simp only [List.length_cons, List.length_append]
    omega
theorem words_join (w : List UInt8) (ws : List (List UInt8)) (hw : (32 : UInt8) ∉ w) (hws : ∀ x ∈ ws, (32 : UInt8) ∉ x) : (wordsL ⟨(joinS w ws).toArray⟩).map (fun b => b.data.toList) = w :: ws := by
  unfold wordsL
  have hc : Lib.countB ⟨(joinS w ws).toArray⟩ space = ws.length := by
    show Lib.countFrom [32] ((joinS w ws).toArray.toList.length + 1) (joinS w ws).toArray.toList = ws.length
    rw [List.toList_toArray]
    exact count_join ws w _ hw hws (Nat.lt_succ_of_le (join_length ws w))
  rw [hc]
  have := Lib.splitB_data space 0 ws.length ⟨(joinS w ws).toArray⟩
  rw [show ((⟨(joinS w ws).toArray⟩ : ByteArray).data.toList) = joinS w ws by simp, show space.data.toList = [32] from rfl, split_join ws w hw hws] at this
  exact this
theorem bytes_ext {a b : ByteArray} (h : a.data.toList = b.data.toList) : a = b := by
  cases a with | mk da => cases b with | mk db =>
  have : da = db := Array.ext' h
  rw [this]
theorem map_ext : ∀ {l l' : List ByteArray}, l.map (fun b => b.data.toList) = l'.map (fun b => b.data.toList) → l = l'
  | [], [], _ => rfl
  | [], _ :: _, h => by simp at h
  | _ :: _, [], h => by simp at h
  | a :: l, b :: l', h => by
    simp only [List.map_cons, List.cons.injEq] at h
    rw [bytes_ext h.1, map_ext h.2]
theorem app_list (a b : ByteArray) : (a ++ b).data.toList = a.data.toList ++ b.data.toList := by simp [ByteArray.data_append]
theorem words_list : ∀ (n : List Int) (wd : ByteArray), (wordsOf wd n).data.toList = joinS wd.data.toList (n.map Lib.itoa)
  | [], wd => by simp [wordsOf, joinS]
  | x :: n, wd => by
    have ih := words_list n (wd ++ (⟨#[32]⟩ ++ itoaB x))
    have e : wordsOf wd (x :: n) = wordsOf (wd ++ (⟨#[32]⟩ ++ itoaB x)) n := rfl
    rw [e, ih, app_list, app_list]
    simp [joinS, itoaB]
theorem nums_itoa : ∀ (n : List Int), (∀ x ∈ n, -9223372036854775808 ≤ x ∧ x ≤ 9223372036854775807) → numsIn (n.map itoaB) = some n
  | [], _ => rfl
  | x :: n, h => by
    have ih := nums_itoa n (fun y hy => h y (by simp [hy]))
    rw [List.map_cons, numsIn, num_itoa x (h x (by simp)), ih]
theorem read_words (wd : ByteArray) (n : List Int) (hw : (32 : UInt8) ∉ wd.data.toList) (hn : ∀ x ∈ n, -9223372036854775808 ≤ x ∧ x ≤ 9223372036854775807) : readOf (wordsOf wd n) = some (wd, n) := by
  have h1 := words_join wd.data.toList (n.map Lib.itoa) hw (fun x hx => by
    obtain ⟨v, _, rfl⟩ := List.mem_map.1 hx
    exact fun h => (itoa_bytes v 32 h).1 rfl)
  have e : (⟨(joinS wd.data.toList (n.map Lib.itoa)).toArray⟩ : ByteArray) = wordsOf wd n := bytes_ext (by rw [words_list])
  rw [e] at h1
  have h2 : wordsL (wordsOf wd n) = wd :: n.map itoaB := by
    apply map_ext
    rw [h1]
    simp [itoaB]
  unfold readOf
  rw [h2, List.tail_cons, nums_itoa n hn]
  rfl
theorem nums_inv : ∀ (l : List ByteArray) (n : List Int), numsIn l = some n → l = n.map itoaB ∧ ∀ x ∈ n, -9223372036854775808 ≤ x ∧ x ≤ 9223372036854775807
  | [], n, h => by
    injection h with h
    subst h
    exact ⟨rfl, by simp⟩
  | t :: r, n, h => by
    unfold numsIn at h
    cases ha : numOf t with
    | none => rw [ha] at h; cases h
    | some v =>
      cases hr : numsIn r with
      | none => rw [ha, hr] at h; cases h
      | some l =>
        rw [ha, hr] at h
        injection h with h
        subst h
        obtain ⟨h1, h2⟩ := nums_inv r l hr
        obtain ⟨h3, h4⟩ := numOf_some ha
        have ht : t = itoaB v := bytes_ext (by rw [← Lib.toList_data, ← Lib.toList_data, h4])
        refine ⟨by rw [List.map_cons, ← h1, ← ht], fun x hx => ?_⟩
        rcases List.mem_cons.1 hx with rfl | hx
        · exact h3
        · exact h2 x hx
theorem read_inv (s wd : ByteArray) (n : List Int) (h : readOf s = some (wd, n)) : s = wordsOf wd n ∧ (32 : UInt8) ∉ wd.data.toList ∧ ∀ x ∈ n, -9223372036854775808 ≤ x ∧ x ≤ 9223372036854775807 := by
  obtain ⟨w, ws, he, hw, hws⟩ := join_decomp s.data.toList
  have hs : s = ⟨(joinS w ws).toArray⟩ := bytes_ext (by rw [he])
  have hj := words_join w ws hw hws
  rw [← hs] at hj
  unfold readOf at h
  cases hl : wordsL s with
  | nil => rw [hl] at hj; simp at hj
  | cons a l =>
    rw [hl] at hj h
    simp only [List.map_cons, List.cons.injEq] at hj
    rw [List.tail_cons] at h
    cases hn : numsIn l with
    | none => rw [hn] at h; cases h
    | some m =>
      rw [hn] at h
      injection h with h
      injection h with h1 h2
      subst h2
      obtain ⟨h3, h4⟩ := nums_inv l m hn
      have hwd : wd = a := h1.symm
      subst hwd
      refine ⟨?_, by rw [hj.1]; exact hw, h4⟩
      apply bytes_ext
      have hc : ((fun b : ByteArray => b.data.toList) ∘ itoaB) = Lib.itoa := by
        funext x
        simp [itoaB]
      rw [he, words_list, hj.1, ← hj.2, h3, List.map_map, hc]
end Go.Proofs.YtfkfgjmhcfagkaaDoor.Given
end
section
namespace Go.Proofs.YtfkfgjmhcfagkaaDoor.Given
open Go.RowKit Go.Proofs.YtfkfgjmhcfagkaaDoorW.PrintWords Go.Proofs.YtfkfgjmhcfagkaaDoorW.PrintLast Go.Proofs.YtfkfgjmhcfagkaaDoorW.PrintMore Go.Proofs.YtfkfgjmhcfagkaaDoor.Print
set_option linter.unusedVariables false
set_option linter.unusedSimpArgs false
theorem one_out (t : ByteArray) (v : Value) (w : World) (h : opOf t = 0) :
    Calls Tryd.prog 62 #[.string t, v] w fun e w' => ∃ a b c : Int, e = .returned (.tuple #[.agg #[.int .i64 a, .int .i64 b, .int .i64 c, .slice none 0 0], .bool false]) ∧ Below w.heap.size w w' := by
  have hu28 := Tryd.underlying28
  go_enter Tryd.func62, Tryd.ntmps62
  go_wp2_with (first
    | ((with_reducible refine gate_dst (N := 4) rfl ?_); refine box_event ?hg (N := 4) ?hd (cs := #[.int .i64 0, .int .i64 0, .int .i64 0, .slice none 0 0]) (t := 28) ?hr ?_; (case hd => rfl); (case hg => rfl); (case hr => first | (go_simp; done) | (go_simp; rfl)); intro g4 hg w2 hbox hb; have BK4 := Aside0.mk hbox; have HB := Aside0.mk hb; have GE4 := Aside0.mk (Nat.le_of_eq hg.symm); clear hg hbox hb)
    | (go_at_call 11; refine (op_any t _).mono ?_; rw [h]; rintro e w3 ⟨rfl, hb⟩; have n1_ := Aside0.mk (blk_below BK4.out hb); have n3_ := Aside0.mk (below_then HB.out HB.out.size hb); clear BK4 HB hb; have BK4 := n1_; have HB := n3_; clear n1_ n3_)
    | ((with_reducible refine gate_dst (N := 6) rfl ?_); refine box_event ?hg (N := 6) ?hd (cs := #[.int .i64 0, .int .i64 0, .int .i64 0, .slice none 0 0]) (t := 28) ?hr ?_; (case hd => rfl); (case hg => rfl); (case hr => first | (go_simp; done) | (go_simp; rfl)); intro g6 hg w4 hbox hb; have BK6 := Aside0.mk hbox; have GE6 := Aside0.mk (show w.heap.size ≤ g6 by rw [hg]; exact HB.out.size); have NE := Aside0.mk (show g4 ≠ g6 by rw [hg]; exact Nat.ne_of_lt (blk_lt BK4.out)); have n1_ := Aside0.mk (blk_below BK4.out hb); have n3_ := Aside0.mk (below_then HB.out HB.out.size hb); clear BK4 HB; have BK4 := n1_; have HB := n3_; clear n1_ n3_ hg hbox hb)
    | (refine wpList_store_row rfl 28 (.tmp 6) (.tmp 12) rfl g6 #[.int .i64 0, .int .i64 0, .int .i64 0, .slice none 0 0] rfl rfl 28 _ BK6.out (by kernel_rfl) rfl (by kernel_rfl) ?_; have n0_ : Aside0 ((w4.setRow g6 #[.int .i64 0, .int .i64 0, .int .i64 0, .slice none 0 0]).heap[g6]? = some (.cells #[.int .i64 0, .int .i64 0, .int .i64 0, .slice none 0 0] 28 (0, 0))) := ⟨setRow_heap _ _ _ _ _ _ BK6.out⟩; have n2_ : Aside0 ((w4.setRow g6 #[.int .i64 0, .int .i64 0, .int .i64 0, .slice none 0 0]).heap[g4]? = some (.cells #[.int .i64 0, .int .i64 0, .int .i64 0, .slice none 0 0] 28 (0, 0))) := ⟨(setRow_other _ _ _ _ NE.out).trans BK4.out⟩; have n1_ := Aside0.mk (below_setRow HB.out GE6.out #[.int .i64 0, .int .i64 0, .int .i64 0, .slice none 0 0]); generalize w4.setRow g6 #[.int .i64 0, .int .i64 0, .int .i64 0, .slice none 0 0] = w5 at n0_ n1_ n2_ ⊢; clear BK4 BK6 HB; have BK6 := n0_; have BK4 := n2_; have HB := n1_; clear n0_ n1_ n2_; have y0 : w5.cell? ⟨g6, 0, none⟩ = some (.int .i64 0) := (blk_cell BK6.out 0).trans rfl; have y1 : w5.cell? ⟨g6, 1, none⟩ = some (.int .i64 0) := (blk_cell BK6.out 1).trans rfl; have y2 : w5.cell? ⟨g6, 2, none⟩ = some (.int .i64 0) := (blk_cell BK6.out 2).trans rfl; have y3 : w5.cell? ⟨g6, 3, none⟩ = some (.slice none 0 0) := (blk_cell BK6.out 3).trans rfl)
    | (refine wpList_store_row rfl 28 (.tmp 4) (.tmp 16) rfl g4 #[.int .i64 0, .int .i64 0, .int .i64 0, .slice none 0 0] rfl rfl 28 _ BK4.out (by kernel_rfl) rfl (by kernel_rfl) ?_; have n9_ : Aside0 ((w5.setRow g4 #[.int .i64 0, .int .i64 0, .int .i64 0, .slice none 0 0]).heap[g4]? = some (.cells #[.int .i64 0, .int .i64 0, .int .i64 0, .slice none 0 0] 28 (0, 0))) := ⟨setRow_heap _ _ _ _ _ _ BK4.out⟩; have n1_ := Aside0.mk (below_setRow HB.out GE4.out #[.int .i64 0, .int .i64 0, .int .i64 0, .slice none 0 0]); generalize w5.setRow g4 #[.int .i64 0, .int .i64 0, .int .i64 0, .slice none 0 0] = w6 at n9_ n1_ ⊢))
  refine bodyPost_ret (results_ct rfl _ _ g4 28 #[.int .i64 0, .int .i64 0, .int .i64 0, .slice none 0 0] (0, 0) _ rfl n9_.out Tryd.underlying28 rfl (by kernel_rfl)) rfl ?_
  exact ⟨_, _, _, rfl, n1_.out⟩
end Go.Proofs.YtfkfgjmhcfagkaaDoor.Given
end
section
namespace Go.Proofs.YtfkfgjmhcfagkaaDoor.Given
open Go.RowKit Go.Proofs.YtfkfgjmhcfagkaaDoorW.PrintWords Go.Proofs.YtfkfgjmhcfagkaaDoorW.PrintLast Go.Proofs.YtfkfgjmhcfagkaaDoorW.PrintMore Go.Proofs.YtfkfgjmhcfagkaaDoor.Print
set_option linter.unusedVariables false
set_option linter.unusedSimpArgs false
theorem num_at {w : World} {A : Option Addr} {n : Nat} {ns : List Int} (h : Kd.C (Kd.int .i64) w A n ns) (j : Nat) (x : Int) (hx : ns[j]? = some x) : ∃ ad, A = some ad ∧ w.cell? (ad.add j) = some (.int .i64 x) := by
  have hl := (List.getElem?_eq_some_iff.1 hx).1
  obtain ⟨ad, e, hc⟩ := Kd.at_int h (j : Int) (by omega) (by have := Kd.C_len h; omega)
  rw [Int.toNat_natCast] at hc
  refine ⟨ad, e, ?_⟩
  rw [hc]
  simp [rd, hx]
theorem num_at0 {w : World} {A : Option Addr} {n : Nat} {ns : List Int} (h : Kd.C (Kd.int .i64) w A n ns) (x : Int) (hx : ns[0]? = some x) : ∃ ad, A = some ad ∧ w.cell? ad = some (.int .i64 x) := num_at h 0 x hx
def tailA (A : Option Addr) (c : Nat) : Option Addr := if c = 1 then A else A.map (·.add 1)
theorem slice_one (A : Option Addr) (n c : Nat) (hn : n + 1 ≤ c) : ∃ A1 c1, (∀ W : World, (Instr.slice 26 (.slice A (n + 1) c) (some (.int .i64 1)) none none).run Tryd.prog W = .ok (.slice A1 n c1) W) ∧
    Aside0 (A1 = tailA A c ∧ c1 = c - 1) := by
  obtain ⟨i0, hi0, _, hsz, _⟩ := info_parts info3
  have h := cut_from (P := Tryd.prog) 26 3 .i64 Tryd.underlying26 hi0 1 hsz A (n + 1) c 1 (by omega) (by omega)
  refine ⟨_, _, fun W => ?_, ⟨rfl, rfl⟩⟩
  have := h W
  simpa [tailA] using this
set_option maxRecDepth 100000 in
set_option maxHeartbeats 4000000 in
theorem one_h0 (t : ByteArray) (k : Nat) (A : Option Addr) (c : Nat) (n : Nat) (ns : List Int) (w : World) (hr : Kd.C (Kd.int .i64) w A n (ns)) (hc : n ≤ c) (h : opOf t = k) (h1 : 1 ≤ k) (h2 : k ≤ 27) (hh : hasAt k = 0) :
    Calls Tryd.prog 62 #[.string t, .slice A n c] w fun e w' => e = .returned (.tuple #[.agg #[.int .i64 k, .int .i64 0, .int .i64 0, .slice none 0 0], .bool ((n : Int) == 0)]) ∧ Below w.heap.size w w' := by
  have hu28 := Tryd.underlying28
  have hix := fun W => index_at W k (by omega)
  rw [hh] at hix
  have hfd := field_has (nameAt k) 0
  have hk0 : ((k : Int) == 0) = false := by simp; omega
  have HO := Aside0.mk h
  have HR := Aside0.mk hr
  clear h hh hr
  go_enter Tryd.func62, Tryd.ntmps62
  go_wp2_with (first
    | ((with_reducible refine gate_dst (N := 4) rfl ?_); refine box_event ?hg (N := 4) ?hd (cs := #[.int .i64 0, .int .i64 0, .int .i64 0, .slice none 0 0]) (t := 28) ?hr ?_; (case hd => rfl); (case hg => rfl); (case hr => first | (go_simp; done) | (go_simp; rfl)); intro g4 hg w2 hbox hb; have BK4 := Aside0.mk hbox; have HB := Aside0.mk hb; have GE4 := Aside0.mk (Nat.le_of_eq hg.symm); clear hg hbox hb)
    | (go_at_call 11; refine (op_any t _).mono ?_; rw [HO.out]; rintro e w3 ⟨rfl, hb⟩; have n1_ := Aside0.mk (blk_below BK4.out hb); have n3_ := Aside0.mk (below_then HB.out HB.out.size hb); clear BK4 HB hb; have BK4 := n1_; have HB := n3_; clear n1_ n3_)
    | ((with_reducible refine gate_dst (N := 6) rfl ?_); refine box_event ?hg (N := 6) ?hd (cs := #[.int .i64 0, .int .i64 0, .int .i64 0, .slice none 0 0]) (t := 28) ?hr ?_; (case hd => rfl); (case hg => rfl); (case hr => first | (go_simp; done) | (go_simp; rfl)); intro g6 hg w4 hbox hb; have BK6 := Aside0.mk hbox; have GE6 := Aside0.mk (show w.heap.size ≤ g6 by rw [hg]; exact HB.out.size); have NE := Aside0.mk (show g4 ≠ g6 by rw [hg]; exact Nat.ne_of_lt (blk_lt BK4.out)); have n1_ := Aside0.mk (blk_below BK4.out hb); have n3_ := Aside0.mk (below_then HB.out HB.out.size hb); clear BK4 HB; have BK4 := n1_; have HB := n3_; clear n1_ n3_ hg hbox hb)
    | (refine wpList_store_row rfl 28 (.tmp 6) (.tmp 12) rfl g6 #[.int .i64 k, .int .i64 0, .int .i64 0, .slice none 0 0] rfl rfl 28 _ BK6.out (by kernel_rfl) rfl (by kernel_rfl) ?_; have n0_ : Aside0 ((w4.setRow g6 #[.int .i64 k, .int .i64 0, .int .i64 0, .slice none 0 0]).heap[g6]? = some (.cells #[.int .i64 k, .int .i64 0, .int .i64 0, .slice none 0 0] 28 (0, 0))) := ⟨setRow_heap _ _ _ _ _ _ BK6.out⟩; have n2_ : Aside0 ((w4.setRow g6 #[.int .i64 k, .int .i64 0, .int .i64 0, .slice none 0 0]).heap[g4]? = some (.cells #[.int .i64 0, .int .i64 0, .int .i64 0, .slice none 0 0] 28 (0, 0))) := ⟨(setRow_other _ _ _ _ NE.out).trans BK4.out⟩; have n1_ := Aside0.mk (below_setRow HB.out GE6.out #[.int .i64 k, .int .i64 0, .int .i64 0, .slice none 0 0]); generalize w4.setRow g6 #[.int .i64 k, .int .i64 0, .int .i64 0, .slice none 0 0] = w5 at n0_ n1_ n2_ ⊢; clear BK4 BK6 HB; have BK6 := n0_; have BK4 := n2_; have HB := n1_; clear n0_ n1_ n2_; have y0 : w5.cell? ⟨g6, 0, none⟩ = some (.int .i64 k) := (blk_cell BK6.out 0).trans rfl; have y1 : w5.cell? ⟨g6, 1, none⟩ = some (.int .i64 0) := (blk_cell BK6.out 1).trans rfl; have y2 : w5.cell? ⟨g6, 2, none⟩ = some (.int .i64 0) := (blk_cell BK6.out 2).trans rfl; have y3 : w5.cell? ⟨g6, 3, none⟩ = some (.slice none 0 0) := (blk_cell BK6.out 3).trans rfl))
  clear y1 y2 y3
  go_cut [7] (fun v7 wc => v7 = .int .i64 0 ∧ Aside0 (wc.heap[g6]? = some (.cells #[.int .i64 k, .int .i64 0, .int .i64 0, .slice none 0 0] 28 (0, 0))) ∧ Aside0 (wc.heap[g4]? = some (.cells #[.int .i64 0, .int .i64 0, .int .i64 0, .slice none 0 0] 28 (0, 0))) ∧ Aside0 (Below w.heap.size w wc))
  case first =>
    have y1 : ∀ o : Obj, (w5.alloc o).cell? ⟨g6, 0, none⟩ = some (.int .i64 k) := fun o => pw_cell_below (below_alloc (Below.refl _ w5) o) y0
    go_region_with (go_at_call 31; refine (table_any _).mono ?_; rintro e w2 ⟨rfl, rfl⟩)
    all_goals go_wp2_with (fail)
    all_goals go_meet
    all_goals exact ⟨rfl, ⟨blk_below BK6.out (below_drew (below_alloc (Below.refl _ _) _))⟩, ⟨blk_below BK4.out (below_drew (below_alloc (Below.refl _ _) _))⟩, ⟨below_then HB.out HB.out.size (below_drew (below_alloc (Below.refl _ _) _))⟩⟩
  case rest =>
    obtain ⟨rfl, BK6, BK4, HB⟩ := hcut
    go_wp2_with (fail)
    have BKP := Aside0.mk (blk_new wc (.cells #[.int .i64 1, .pointer (some ⟨g6, 1, none⟩), .int .i64 2, .pointer (some ⟨g6, 2, none⟩)] 105))
    have GP := Aside0.mk (show g6 ≠ wc.heap.size from Nat.ne_of_lt (blk_lt BK6.out))
    have n0_ := Aside0.mk (blk_below BK6.out (below_alloc (Below.refl _ wc) (.cells #[.int .i64 1, .pointer (some ⟨g6, 1, none⟩), .int .i64 2, .pointer (some ⟨g6, 2, none⟩)] 105)))
    have n1_ := Aside0.mk (blk_below BK4.out (below_alloc (Below.refl _ wc) (.cells #[.int .i64 1, .pointer (some ⟨g6, 1, none⟩), .int .i64 2, .pointer (some ⟨g6, 2, none⟩)] 105)))
    have n2_ := Aside0.mk (below_then HB.out HB.out.size (below_alloc (Below.refl _ wc) (.cells #[.int .i64 1, .pointer (some ⟨g6, 1, none⟩), .int .i64 2, .pointer (some ⟨g6, 2, none⟩)] 105)))
    generalize wc.heap.size = gp at BKP GP ⊢
    generalize wc.alloc (.cells #[.int .i64 1, .pointer (some ⟨g6, 1, none⟩), .int .i64 2, .pointer (some ⟨g6, 2, none⟩)] 105) = w8 at BKP n0_ n1_ n2_ ⊢
    clear BK6 BK4 HB
    have BK6 := n0_
    have BK4 := n1_
    have HB := n2_
    clear n0_ n1_ n2_
    refine wp_loop_rounds 3 ?_
    rw [rounds_succ]
    have p0 : w8.cell? ⟨gp, 0, none⟩ = some (.int .i64 1) := (blk_cell BKP.out 0).trans rfl
    have p1 : w8.cell? ⟨gp, 1, none⟩ = some (.pointer (some ⟨g6, 1, none⟩)) := (blk_cell BKP.out 1).trans rfl
    go_wp2_with (fail)
    have n0_ := Aside0.mk (blk_below BK6.out (below_alloc (Below.refl _ w8) (.cells #[.int .i64 1, .pointer (some ⟨g6, 1, none⟩)] 105)))
    have n1_ := Aside0.mk (blk_below BK4.out (below_alloc (Below.refl _ w8) (.cells #[.int .i64 1, .pointer (some ⟨g6, 1, none⟩)] 105)))
    have n3_ := Aside0.mk (blk_below BKP.out (below_alloc (Below.refl _ w8) (.cells #[.int .i64 1, .pointer (some ⟨g6, 1, none⟩)] 105)))
    have n2_ := Aside0.mk (below_then HB.out HB.out.size (below_alloc (Below.refl _ w8) (.cells #[.int .i64 1, .pointer (some ⟨g6, 1, none⟩)] 105)))
    generalize w8.alloc (.cells #[.int .i64 1, .pointer (some ⟨g6, 1, none⟩)] 105) = w9 at n0_ n1_ n2_ n3_ ⊢
    clear BK6 BK4 HB BKP p0 p1
    have BK6 := n0_
    have BK4 := n1_
    have HB := n2_
    have BKP := n3_
    clear n0_ n1_ n2_ n3_
    rw [rounds_succ]
    have p2 : w9.cell? ⟨gp, 2, none⟩ = some (.int .i64 2) := (blk_cell BKP.out 2).trans rfl
    have p3 : w9.cell? ⟨gp, 3, none⟩ = some (.pointer (some ⟨g6, 2, none⟩)) := (blk_cell BKP.out 3).trans rfl
    go_wp2_with (fail)
    have n0_ := Aside0.mk (blk_below BK6.out (below_alloc (Below.refl _ w9) (.cells #[.int .i64 2, .pointer (some ⟨g6, 2, none⟩)] 105)))
    have n1_ := Aside0.mk (blk_below BK4.out (below_alloc (Below.refl _ w9) (.cells #[.int .i64 2, .pointer (some ⟨g6, 2, none⟩)] 105)))
    have n3_ := Aside0.mk (blk_below BKP.out (below_alloc (Below.refl _ w9) (.cells #[.int .i64 2, .pointer (some ⟨g6, 2, none⟩)] 105)))
    have n2_ := Aside0.mk (below_then HB.out HB.out.size (below_alloc (Below.refl _ w9) (.cells #[.int .i64 2, .pointer (some ⟨g6, 2, none⟩)] 105)))
    generalize w9.alloc (.cells #[.int .i64 2, .pointer (some ⟨g6, 2, none⟩)] 105) = w12 at n0_ n1_ n2_ n3_ ⊢
    clear BK6 BK4 HB BKP p2 p3
    have BK6 := n0_
    have BK4 := n1_
    have HB := n2_
    have BKP := n3_
    clear n0_ n1_ n2_ n3_
    rw [rounds_succ]
    have y0 : w12.cell? ⟨g6, 0, none⟩ = some (.int .i64 k) := (blk_cell BK6.out 0).trans rfl
    have y1 : w12.cell? ⟨g6, 1, none⟩ = some (.int .i64 0) := (blk_cell BK6.out 1).trans rfl
    have y2 : w12.cell? ⟨g6, 2, none⟩ = some (.int .i64 0) := (blk_cell BK6.out 2).trans rfl
    have y3 : w12.cell? ⟨g6, 3, none⟩ = some (.slice none 0 0) := (blk_cell BK6.out 3).trans rfl
    go_wp2_with (first | (refine wpList_store_row rfl 28 (.tmp 4) (.tmp 56) rfl g4 #[.int .i64 k, .int .i64 0, .int .i64 0, .slice none 0 0] rfl rfl 28 _ BK4.out (by kernel_rfl) rfl (by kernel_rfl) ?_; have n9_ : Aside0 ((w12.setRow g4 #[.int .i64 k, .int .i64 0, .int .i64 0, .slice none 0 0]).heap[g4]? = some (.cells #[.int .i64 k, .int .i64 0, .int .i64 0, .slice none 0 0] 28 (0, 0))) := ⟨setRow_heap _ _ _ _ _ _ BK4.out⟩; have n8_ := Aside0.mk (below_setRow HB.out GE4.out #[.int .i64 k, .int .i64 0, .int .i64 0, .slice none 0 0]); generalize w12.setRow g4 #[.int .i64 k, .int .i64 0, .int .i64 0, .slice none 0 0] = wz at n9_ n8_ ⊢))
    refine bodyPost_ret (results_ct rfl _ _ g4 28 #[.int .i64 k, .int .i64 0, .int .i64 0, .slice none 0 0] (0, 0) _ rfl n9_.out Tryd.underlying28 rfl (by kernel_rfl)) rfl ?_
    exact ⟨rfl, n8_.out⟩
set_option maxRecDepth 100000 in
set_option maxHeartbeats 4000000 in
theorem one_h4 (t : ByteArray) (k : Nat) (A : Option Addr) (c : Nat) (n : Nat) (ns : List Int) (w : World) (hr : Kd.C (Kd.int .i64) w A n (ns)) (hc : n ≤ c) (h : opOf t = k) (h1 : 1 ≤ k) (h2 : k ≤ 27) (hh : hasAt k = 4) :
    Calls Tryd.prog 62 #[.string t, .slice A n c] w fun e w' => e = .returned (.tuple #[.agg #[.int .i64 k, .int .i64 0, .int .i64 0, .slice A n c], .bool true]) ∧ Below w.heap.size w w' := by
  have hu28 := Tryd.underlying28
  have hix := fun W => index_at W k (by omega)
  rw [hh] at hix
  have hfd := field_has (nameAt k) 4
  have hk0 : ((k : Int) == 0) = false := by simp; omega
  have HO := Aside0.mk h
  have HR := Aside0.mk hr
  clear h hh hr
  go_enter Tryd.func62, Tryd.ntmps62
  go_wp2_with (first
    | ((with_reducible refine gate_dst (N := 4) rfl ?_); refine box_event ?hg (N := 4) ?hd (cs := #[.int .i64 0, .int .i64 0, .int .i64 0, .slice none 0 0]) (t := 28) ?hr ?_; (case hd => rfl); (case hg => rfl); (case hr => first | (go_simp; done) | (go_simp; rfl)); intro g4 hg w2 hbox hb; have BK4 := Aside0.mk hbox; have HB := Aside0.mk hb; have GE4 := Aside0.mk (Nat.le_of_eq hg.symm); clear hg hbox hb)
    | (go_at_call 11; refine (op_any t _).mono ?_; rw [HO.out]; rintro e w3 ⟨rfl, hb⟩; have n1_ := Aside0.mk (blk_below BK4.out hb); have n3_ := Aside0.mk (below_then HB.out HB.out.size hb); clear BK4 HB hb; have BK4 := n1_; have HB := n3_; clear n1_ n3_)
    | ((with_reducible refine gate_dst (N := 6) rfl ?_); refine box_event ?hg (N := 6) ?hd (cs := #[.int .i64 0, .int .i64 0, .int .i64 0, .slice none 0 0]) (t := 28) ?hr ?_; (case hd => rfl); (case hg => rfl); (case hr => first | (go_simp; done) | (go_simp; rfl)); intro g6 hg w4 hbox hb; have BK6 := Aside0.mk hbox; have GE6 := Aside0.mk (show w.heap.size ≤ g6 by rw [hg]; exact HB.out.size); have NE := Aside0.mk (show g4 ≠ g6 by rw [hg]; exact Nat.ne_of_lt (blk_lt BK4.out)); have n1_ := Aside0.mk (blk_below BK4.out hb); have n3_ := Aside0.mk (below_then HB.out HB.out.size hb); clear BK4 HB; have BK4 := n1_; have HB := n3_; clear n1_ n3_ hg hbox hb)
    | (refine wpList_store_row rfl 28 (.tmp 6) (.tmp 12) rfl g6 #[.int .i64 k, .int .i64 0, .int .i64 0, .slice none 0 0] rfl rfl 28 _ BK6.out (by kernel_rfl) rfl (by kernel_rfl) ?_; have n0_ : Aside0 ((w4.setRow g6 #[.int .i64 k, .int .i64 0, .int .i64 0, .slice none 0 0]).heap[g6]? = some (.cells #[.int .i64 k, .int .i64 0, .int .i64 0, .slice none 0 0] 28 (0, 0))) := ⟨setRow_heap _ _ _ _ _ _ BK6.out⟩; have n2_ : Aside0 ((w4.setRow g6 #[.int .i64 k, .int .i64 0, .int .i64 0, .slice none 0 0]).heap[g4]? = some (.cells #[.int .i64 0, .int .i64 0, .int .i64 0, .slice none 0 0] 28 (0, 0))) := ⟨(setRow_other _ _ _ _ NE.out).trans BK4.out⟩; have n1_ := Aside0.mk (below_setRow HB.out GE6.out #[.int .i64 k, .int .i64 0, .int .i64 0, .slice none 0 0]); generalize w4.setRow g6 #[.int .i64 k, .int .i64 0, .int .i64 0, .slice none 0 0] = w5 at n0_ n1_ n2_ ⊢; clear BK4 BK6 HB; have BK6 := n0_; have BK4 := n2_; have HB := n1_; clear n0_ n1_ n2_; have y0 : w5.cell? ⟨g6, 0, none⟩ = some (.int .i64 k) := (blk_cell BK6.out 0).trans rfl; have y1 : w5.cell? ⟨g6, 1, none⟩ = some (.int .i64 0) := (blk_cell BK6.out 1).trans rfl; have y2 : w5.cell? ⟨g6, 2, none⟩ = some (.int .i64 0) := (blk_cell BK6.out 2).trans rfl; have y3 : w5.cell? ⟨g6, 3, none⟩ = some (.slice none 0 0) := (blk_cell BK6.out 3).trans rfl))
  clear y1 y2 y3
  go_cut [7] (fun v7 wc => v7 = .int .i64 4 ∧ Aside0 (wc.heap[g6]? = some (.cells #[.int .i64 k, .int .i64 0, .int .i64 0, .slice none 0 0] 28 (0, 0))) ∧ Aside0 (wc.heap[g4]? = some (.cells #[.int .i64 0, .int .i64 0, .int .i64 0, .slice none 0 0] 28 (0, 0))) ∧ Aside0 (Below w.heap.size w wc))
  case first =>
    have y1 : ∀ o : Obj, (w5.alloc o).cell? ⟨g6, 0, none⟩ = some (.int .i64 k) := fun o => pw_cell_below (below_alloc (Below.refl _ w5) o) y0
    go_region_with (go_at_call 31; refine (table_any _).mono ?_; rintro e w2 ⟨rfl, rfl⟩)
    all_goals go_wp2_with (fail)
    all_goals go_meet
    all_goals exact ⟨rfl, ⟨blk_below BK6.out (below_drew (below_alloc (Below.refl _ _) _))⟩, ⟨blk_below BK4.out (below_drew (below_alloc (Below.refl _ _) _))⟩, ⟨below_then HB.out HB.out.size (below_drew (below_alloc (Below.refl _ _) _))⟩⟩
  case rest =>
    obtain ⟨rfl, BK6, BK4, HB⟩ := hcut
    go_wp2_with (fail)
    have BKP := Aside0.mk (blk_new wc (.cells #[.int .i64 1, .pointer (some ⟨g6, 1, none⟩), .int .i64 2, .pointer (some ⟨g6, 2, none⟩)] 105))
    have GP := Aside0.mk (show g6 ≠ wc.heap.size from Nat.ne_of_lt (blk_lt BK6.out))
    have n0_ := Aside0.mk (blk_below BK6.out (below_alloc (Below.refl _ wc) (.cells #[.int .i64 1, .pointer (some ⟨g6, 1, none⟩), .int .i64 2, .pointer (some ⟨g6, 2, none⟩)] 105)))
    have n1_ := Aside0.mk (blk_below BK4.out (below_alloc (Below.refl _ wc) (.cells #[.int .i64 1, .pointer (some ⟨g6, 1, none⟩), .int .i64 2, .pointer (some ⟨g6, 2, none⟩)] 105)))
    have n2_ := Aside0.mk (below_then HB.out HB.out.size (below_alloc (Below.refl _ wc) (.cells #[.int .i64 1, .pointer (some ⟨g6, 1, none⟩), .int .i64 2, .pointer (some ⟨g6, 2, none⟩)] 105)))
    generalize wc.heap.size = gp at BKP GP ⊢
    generalize wc.alloc (.cells #[.int .i64 1, .pointer (some ⟨g6, 1, none⟩), .int .i64 2, .pointer (some ⟨g6, 2, none⟩)] 105) = w8 at BKP n0_ n1_ n2_ ⊢
    clear BK6 BK4 HB
    have BK6 := n0_
    have BK4 := n1_
    have HB := n2_
    clear n0_ n1_ n2_
    refine wp_loop_rounds 3 ?_
    rw [rounds_succ]
    have p0 : w8.cell? ⟨gp, 0, none⟩ = some (.int .i64 1) := (blk_cell BKP.out 0).trans rfl
    have p1 : w8.cell? ⟨gp, 1, none⟩ = some (.pointer (some ⟨g6, 1, none⟩)) := (blk_cell BKP.out 1).trans rfl
    go_wp2_with (fail)
    have n0_ := Aside0.mk (blk_below BK6.out (below_alloc (Below.refl _ w8) (.cells #[.int .i64 1, .pointer (some ⟨g6, 1, none⟩)] 105)))
    have n1_ := Aside0.mk (blk_below BK4.out (below_alloc (Below.refl _ w8) (.cells #[.int .i64 1, .pointer (some ⟨g6, 1, none⟩)] 105)))
    have n3_ := Aside0.mk (blk_below BKP.out (below_alloc (Below.refl _ w8) (.cells #[.int .i64 1, .pointer (some ⟨g6, 1, none⟩)] 105)))
    have n2_ := Aside0.mk (below_then HB.out HB.out.size (below_alloc (Below.refl _ w8) (.cells #[.int .i64 1, .pointer (some ⟨g6, 1, none⟩)] 105)))
    generalize w8.alloc (.cells #[.int .i64 1, .pointer (some ⟨g6, 1, none⟩)] 105) = w9 at n0_ n1_ n2_ n3_ ⊢
    clear BK6 BK4 HB BKP p0 p1
    have BK6 := n0_
    have BK4 := n1_
    have HB := n2_
    have BKP := n3_
    clear n0_ n1_ n2_ n3_
    rw [rounds_succ]
    have p2 : w9.cell? ⟨gp, 2, none⟩ = some (.int .i64 2) := (blk_cell BKP.out 2).trans rfl
    have p3 : w9.cell? ⟨gp, 3, none⟩ = some (.pointer (some ⟨g6, 2, none⟩)) := (blk_cell BKP.out 3).trans rfl
    go_wp2_with (fail)
    have n0_ := Aside0.mk (blk_below BK6.out (below_alloc (Below.refl _ w9) (.cells #[.int .i64 2, .pointer (some ⟨g6, 2, none⟩)] 105)))
    have n1_ := Aside0.mk (blk_below BK4.out (below_alloc (Below.refl _ w9) (.cells #[.int .i64 2, .pointer (some ⟨g6, 2, none⟩)] 105)))
    have n3_ := Aside0.mk (blk_below BKP.out (below_alloc (Below.refl _ w9) (.cells #[.int .i64 2, .pointer (some ⟨g6, 2, none⟩)] 105)))
    have n2_ := Aside0.mk (below_then HB.out HB.out.size (below_alloc (Below.refl _ w9) (.cells #[.int .i64 2, .pointer (some ⟨g6, 2, none⟩)] 105)))
    generalize w9.alloc (.cells #[.int .i64 2, .pointer (some ⟨g6, 2, none⟩)] 105) = w12 at n0_ n1_ n2_ n3_ ⊢
    clear BK6 BK4 HB BKP p2 p3
    have BK6 := n0_
    have BK4 := n1_
    have HB := n2_
    have BKP := n3_
    clear n0_ n1_ n2_ n3_
    rw [rounds_succ]
    have y0 : w12.cell? ⟨g6, 0, none⟩ = some (.int .i64 k) := (blk_cell BK6.out 0).trans rfl
    have y1 : w12.cell? ⟨g6, 1, none⟩ = some (.int .i64 0) := (blk_cell BK6.out 1).trans rfl
    have y2 : w12.cell? ⟨g6, 2, none⟩ = some (.int .i64 0) := (blk_cell BK6.out 2).trans rfl
    have y3 : w12.cell? ⟨g6, 3, none⟩ = some (.slice none 0 0) := (blk_cell BK6.out 3).trans rfl
    have z0 := blk_frozen BK6.out 3
    go_wp2_with (first | (refine store_event rfl rfl rfl (by first | (go_simp; done) | (go_simp; rfl)) ?_; intro wy hy; have n0_ : Aside0 (wy.heap[g6]? = some (.cells #[.int .i64 k, .int .i64 0, .int .i64 0, .slice A n c] 28 (0, 0))) := ⟨by rw [hy]; exact blk_put (cs := #[.int .i64 k, .int .i64 0, .int .i64 0, .slice none 0 0]) BK6.out 3 (.slice A n c) rfl⟩; have n1_ : Aside0 (wy.heap[g4]? = some (.cells #[.int .i64 0, .int .i64 0, .int .i64 0, .slice none 0 0] 28 (0, 0))) := ⟨by rw [hy]; exact blk_far BK4.out (p := ⟨g6, 3, none⟩) NE.out (.slice A n c)⟩; have n2_ : Aside0 (Below w.heap.size w wy) := ⟨by rw [hy]; exact below_set (g := g6) (j := 3) (v := .slice A n c) HB.out GE6.out⟩; clear hy BK6 BK4 HB y0 y1 y2 y3 z0; have BK6 := n0_; have BK4 := n1_; have HB := n2_; clear n0_ n1_ n2_; have y0 : wy.cell? ⟨g6, 0, none⟩ = some (.int .i64 k) := (blk_cell BK6.out 0).trans rfl; have y1 : wy.cell? ⟨g6, 1, none⟩ = some (.int .i64 0) := (blk_cell BK6.out 1).trans rfl; have y2 : wy.cell? ⟨g6, 2, none⟩ = some (.int .i64 0) := (blk_cell BK6.out 2).trans rfl; have y3 : wy.cell? ⟨g6, 3, none⟩ = some (.slice A n c) := (blk_cell BK6.out 3).trans rfl) | (refine wpList_store_row rfl 28 (.tmp 4) (.tmp 55) rfl g4 #[.int .i64 k, .int .i64 0, .int .i64 0, .slice A n c] rfl rfl 28 _ BK4.out (by kernel_rfl) rfl (by kernel_rfl) ?_; have n9_ : Aside0 ((wy.setRow g4 #[.int .i64 k, .int .i64 0, .int .i64 0, .slice A n c]).heap[g4]? = some (.cells #[.int .i64 k, .int .i64 0, .int .i64 0, .slice A n c] 28 (0, 0))) := ⟨setRow_heap _ _ _ _ _ _ BK4.out⟩; have n8_ := Aside0.mk (below_setRow HB.out GE4.out #[.int .i64 k, .int .i64 0, .int .i64 0, .slice A n c]); generalize wy.setRow g4 #[.int .i64 k, .int .i64 0, .int .i64 0, .slice A n c] = wz at n9_ n8_ ⊢))
    refine bodyPost_ret (results_ct rfl _ _ g4 28 #[.int .i64 k, .int .i64 0, .int .i64 0, .slice A n c] (0, 0) _ rfl n9_.out Tryd.underlying28 rfl (by kernel_rfl)) rfl ?_
    exact ⟨rfl, n8_.out⟩
set_option maxRecDepth 100000 in
set_option maxHeartbeats 4000000 in
theorem one_h1 (t : ByteArray) (k : Nat) (A : Option Addr) (c : Nat) (x : Int) (r : List Int) (w : World) (hr : Kd.C (Kd.int .i64) w A (r.length + 1) (x :: r)) (hc : (r.length + 1) ≤ c) (h : opOf t = k) (h1 : 1 ≤ k) (h2 : k ≤ 27) (hh : hasAt k = 1) :
    Calls Tryd.prog 62 #[.string t, .slice A (r.length + 1) c] w fun e w' => e = .returned (.tuple #[.agg #[.int .i64 k, .int .i64 x, .int .i64 0, .slice none 0 0], .bool ((r.length : Int) == 0)]) ∧ Below w.heap.size w w' := by
  have hu28 := Tryd.underlying28
  have hix := fun W => index_at W k (by omega)
  rw [hh] at hix
  have hfd := field_has (nameAt k) 1
  have hk0 : ((k : Int) == 0) = false := by simp; omega
  have HO := Aside0.mk h
  have HR := Aside0.mk hr
  obtain ⟨A1, c1, hA1, hAb1⟩ := slice_one A r.length c (by omega)
  replace hA1 : ∀ W : World, (Instr.slice 26 (.slice A (r.length + 1) c) (some (.int .i64 1)) none none).run Tryd.prog W = .ok (.slice A1 r.length c1) W := hA1
  have X0 := Aside0.mk (num_at0 hr x rfl)
  clear h hh hr
  go_enter Tryd.func62, Tryd.ntmps62
  go_wp2_with (first
    | ((with_reducible refine gate_dst (N := 4) rfl ?_); refine box_event ?hg (N := 4) ?hd (cs := #[.int .i64 0, .int .i64 0, .int .i64 0, .slice none 0 0]) (t := 28) ?hr ?_; (case hd => rfl); (case hg => rfl); (case hr => first | (go_simp; done) | (go_simp; rfl)); intro g4 hg w2 hbox hb; have BK4 := Aside0.mk hbox; have HB := Aside0.mk hb; have GE4 := Aside0.mk (Nat.le_of_eq hg.symm); clear hg hbox hb)
    | (go_at_call 11; refine (op_any t _).mono ?_; rw [HO.out]; rintro e w3 ⟨rfl, hb⟩; have n1_ := Aside0.mk (blk_below BK4.out hb); have n3_ := Aside0.mk (below_then HB.out HB.out.size hb); clear BK4 HB hb; have BK4 := n1_; have HB := n3_; clear n1_ n3_)
    | ((with_reducible refine gate_dst (N := 6) rfl ?_); refine box_event ?hg (N := 6) ?hd (cs := #[.int .i64 0, .int .i64 0, .int .i64 0, .slice none 0 0]) (t := 28) ?hr ?_; (case hd => rfl); (case hg => rfl); (case hr => first | (go_simp; done) | (go_simp; rfl)); intro g6 hg w4 hbox hb; have BK6 := Aside0.mk hbox; have GE6 := Aside0.mk (show w.heap.size ≤ g6 by rw [hg]; exact HB.out.size); have NE := Aside0.mk (show g4 ≠ g6 by rw [hg]; exact Nat.ne_of_lt (blk_lt BK4.out)); have n1_ := Aside0.mk (blk_below BK4.out hb); have n3_ := Aside0.mk (below_then HB.out HB.out.size hb); clear BK4 HB; have BK4 := n1_; have HB := n3_; clear n1_ n3_ hg hbox hb)
    | (refine wpList_store_row rfl 28 (.tmp 6) (.tmp 12) rfl g6 #[.int .i64 k, .int .i64 0, .int .i64 0, .slice none 0 0] rfl rfl 28 _ BK6.out (by kernel_rfl) rfl (by kernel_rfl) ?_; have n0_ : Aside0 ((w4.setRow g6 #[.int .i64 k, .int .i64 0, .int .i64 0, .slice none 0 0]).heap[g6]? = some (.cells #[.int .i64 k, .int .i64 0, .int .i64 0, .slice none 0 0] 28 (0, 0))) := ⟨setRow_heap _ _ _ _ _ _ BK6.out⟩; have n2_ : Aside0 ((w4.setRow g6 #[.int .i64 k, .int .i64 0, .int .i64 0, .slice none 0 0]).heap[g4]? = some (.cells #[.int .i64 0, .int .i64 0, .int .i64 0, .slice none 0 0] 28 (0, 0))) := ⟨(setRow_other _ _ _ _ NE.out).trans BK4.out⟩; have n1_ := Aside0.mk (below_setRow HB.out GE6.out #[.int .i64 k, .int .i64 0, .int .i64 0, .slice none 0 0]); generalize w4.setRow g6 #[.int .i64 k, .int .i64 0, .int .i64 0, .slice none 0 0] = w5 at n0_ n1_ n2_ ⊢; clear BK4 BK6 HB; have BK6 := n0_; have BK4 := n2_; have HB := n1_; clear n0_ n1_ n2_; have y0 : w5.cell? ⟨g6, 0, none⟩ = some (.int .i64 k) := (blk_cell BK6.out 0).trans rfl; have y1 : w5.cell? ⟨g6, 1, none⟩ = some (.int .i64 0) := (blk_cell BK6.out 1).trans rfl; have y2 : w5.cell? ⟨g6, 2, none⟩ = some (.int .i64 0) := (blk_cell BK6.out 2).trans rfl; have y3 : w5.cell? ⟨g6, 3, none⟩ = some (.slice none 0 0) := (blk_cell BK6.out 3).trans rfl))
  clear y1 y2 y3
  go_cut [7] (fun v7 wc => v7 = .int .i64 1 ∧ Aside0 (wc.heap[g6]? = some (.cells #[.int .i64 k, .int .i64 0, .int .i64 0, .slice none 0 0] 28 (0, 0))) ∧ Aside0 (wc.heap[g4]? = some (.cells #[.int .i64 0, .int .i64 0, .int .i64 0, .slice none 0 0] 28 (0, 0))) ∧ Aside0 (Below w.heap.size w wc))
  case first =>
    have y1 : ∀ o : Obj, (w5.alloc o).cell? ⟨g6, 0, none⟩ = some (.int .i64 k) := fun o => pw_cell_below (below_alloc (Below.refl _ w5) o) y0
    go_region_with (go_at_call 31; refine (table_any _).mono ?_; rintro e w2 ⟨rfl, rfl⟩)
    all_goals go_wp2_with (fail)
    all_goals go_meet
    all_goals exact ⟨rfl, ⟨blk_below BK6.out (below_drew (below_alloc (Below.refl _ _) _))⟩, ⟨blk_below BK4.out (below_drew (below_alloc (Below.refl _ _) _))⟩, ⟨below_then HB.out HB.out.size (below_drew (below_alloc (Below.refl _ _) _))⟩⟩
  case rest =>
    obtain ⟨rfl, BK6, BK4, HB⟩ := hcut
    go_wp2_with (fail)
    have BKP := Aside0.mk (blk_new wc (.cells #[.int .i64 1, .pointer (some ⟨g6, 1, none⟩), .int .i64 2, .pointer (some ⟨g6, 2, none⟩)] 105))
    have GP := Aside0.mk (show g6 ≠ wc.heap.size from Nat.ne_of_lt (blk_lt BK6.out))
    have n0_ := Aside0.mk (blk_below BK6.out (below_alloc (Below.refl _ wc) (.cells #[.int .i64 1, .pointer (some ⟨g6, 1, none⟩), .int .i64 2, .pointer (some ⟨g6, 2, none⟩)] 105)))
    have n1_ := Aside0.mk (blk_below BK4.out (below_alloc (Below.refl _ wc) (.cells #[.int .i64 1, .pointer (some ⟨g6, 1, none⟩), .int .i64 2, .pointer (some ⟨g6, 2, none⟩)] 105)))
    have n2_ := Aside0.mk (below_then HB.out HB.out.size (below_alloc (Below.refl _ wc) (.cells #[.int .i64 1, .pointer (some ⟨g6, 1, none⟩), .int .i64 2, .pointer (some ⟨g6, 2, none⟩)] 105)))
    generalize wc.heap.size = gp at BKP GP ⊢
    generalize wc.alloc (.cells #[.int .i64 1, .pointer (some ⟨g6, 1, none⟩), .int .i64 2, .pointer (some ⟨g6, 2, none⟩)] 105) = w8 at BKP n0_ n1_ n2_ ⊢
    clear BK6 BK4 HB
    have BK6 := n0_
    have BK4 := n1_
    have HB := n2_
    clear n0_ n1_ n2_
    refine wp_loop_rounds 3 ?_
    rw [rounds_succ]
    have p0 : w8.cell? ⟨gp, 0, none⟩ = some (.int .i64 1) := (blk_cell BKP.out 0).trans rfl
    have p1 : w8.cell? ⟨gp, 1, none⟩ = some (.pointer (some ⟨g6, 1, none⟩)) := (blk_cell BKP.out 1).trans rfl
    have hn0 : ((((r.length + 1) : Nat) : Int) == 0) = false := by simp; try omega
    go_wp2_with (fail)
    have n0_ := Aside0.mk (blk_below BK6.out (below_alloc (Below.refl _ w8) (.cells #[.int .i64 1, .pointer (some ⟨g6, 1, none⟩)] 105)))
    have n1_ := Aside0.mk (blk_below BK4.out (below_alloc (Below.refl _ w8) (.cells #[.int .i64 1, .pointer (some ⟨g6, 1, none⟩)] 105)))
    have n3_ := Aside0.mk (blk_below BKP.out (below_alloc (Below.refl _ w8) (.cells #[.int .i64 1, .pointer (some ⟨g6, 1, none⟩)] 105)))
    have n2_ := Aside0.mk (below_then HB.out HB.out.size (below_alloc (Below.refl _ w8) (.cells #[.int .i64 1, .pointer (some ⟨g6, 1, none⟩)] 105)))
    have n4_ := Aside0.mk (blk_new w8 (.cells #[.int .i64 1, .pointer (some ⟨g6, 1, none⟩)] 105))
    generalize w8.alloc (.cells #[.int .i64 1, .pointer (some ⟨g6, 1, none⟩)] 105) = w9 at n0_ n1_ n2_ n3_ n4_ ⊢
    generalize w8.heap.size = g9 at n4_ ⊢
    clear BK6 BK4 HB BKP p0 p1
    have BK6 := n0_
    have BK4 := n1_
    have HB := n2_
    have BKP := n3_
    clear n0_ n1_ n2_ n3_
    have q1 : w9.cell? ⟨g9, 1, none⟩ = some (.pointer (some ⟨g6, 1, none⟩)) := (blk_cell n4_.out 1).trans rfl
    obtain ⟨ad0, hAD, q2⟩ := X0.out
    subst hAD
    replace q2 := pw_cell_below HB.out q2
    have q3 : w9.cell? ⟨g6, 1, none⟩ = some (.int .i64 0) := (blk_cell BK6.out 1).trans rfl
    have q4 : w9.frozen? ⟨g6, 1, none⟩ = false := blk_frozen BK6.out 1
    go_region
    have n0_ := Aside0.mk (blk_drew (blk_put (cs := #[.int .i64 k, .int .i64 0, .int .i64 0, .slice none 0 0]) (cs' := #[.int .i64 k, .int .i64 x, .int .i64 0, .slice none 0 0]) BK6.out 1 (.int .i64 x) rfl))
    have n1_ := Aside0.mk (blk_drew (blk_far BK4.out (p := ⟨g6, 1, none⟩) NE.out (.int .i64 x)))
    have n2_ := Aside0.mk (below_drew1 (below_set (g := g6) (j := 1) (v := .int .i64 x) HB.out GE6.out))
    have n3_ := Aside0.mk (blk_drew (blk_far BKP.out (p := ⟨g6, 1, none⟩) (Ne.symm GP.out) (.int .i64 x)))
    generalize (w9.setCell ⟨g6, 1, none⟩ (.int .i64 x)).drew = w10 at n0_ n1_ n2_ n3_ ⊢
    clear BK6 BK4 HB BKP q1 q2 q3 q4
    have BK6 := n0_
    have BK4 := n1_
    have HB := n2_
    have BKP := n3_
    clear n0_ n1_ n2_ n3_ n4_
    go_wp2_with (fail)
    clear hn0
    rw [rounds_succ]
    have p2 : w10.cell? ⟨gp, 2, none⟩ = some (.int .i64 2) := (blk_cell BKP.out 2).trans rfl
    have p3 : w10.cell? ⟨gp, 3, none⟩ = some (.pointer (some ⟨g6, 2, none⟩)) := (blk_cell BKP.out 3).trans rfl
    go_wp2_with (fail)
    have n0_ := Aside0.mk (blk_below BK6.out (below_alloc (Below.refl _ w10) (.cells #[.int .i64 2, .pointer (some ⟨g6, 2, none⟩)] 105)))
    have n1_ := Aside0.mk (blk_below BK4.out (below_alloc (Below.refl _ w10) (.cells #[.int .i64 2, .pointer (some ⟨g6, 2, none⟩)] 105)))
    have n3_ := Aside0.mk (blk_below BKP.out (below_alloc (Below.refl _ w10) (.cells #[.int .i64 2, .pointer (some ⟨g6, 2, none⟩)] 105)))
    have n2_ := Aside0.mk (below_then HB.out HB.out.size (below_alloc (Below.refl _ w10) (.cells #[.int .i64 2, .pointer (some ⟨g6, 2, none⟩)] 105)))
    generalize w10.alloc (.cells #[.int .i64 2, .pointer (some ⟨g6, 2, none⟩)] 105) = w12 at n0_ n1_ n2_ n3_ ⊢
    clear BK6 BK4 HB BKP p2 p3
    have BK6 := n0_
    have BK4 := n1_
    have HB := n2_
    have BKP := n3_
    clear n0_ n1_ n2_ n3_
    rw [rounds_succ]
    have y0 : w12.cell? ⟨g6, 0, none⟩ = some (.int .i64 k) := (blk_cell BK6.out 0).trans rfl
    have y1 : w12.cell? ⟨g6, 1, none⟩ = some (.int .i64 x) := (blk_cell BK6.out 1).trans rfl
    have y2 : w12.cell? ⟨g6, 2, none⟩ = some (.int .i64 0) := (blk_cell BK6.out 2).trans rfl
    have y3 : w12.cell? ⟨g6, 3, none⟩ = some (.slice none 0 0) := (blk_cell BK6.out 3).trans rfl
    go_wp2_with (first | (refine wpList_store_row rfl 28 (.tmp 4) (.tmp 56) rfl g4 #[.int .i64 k, .int .i64 x, .int .i64 0, .slice none 0 0] rfl rfl 28 _ BK4.out (by kernel_rfl) rfl (by kernel_rfl) ?_; have n9_ : Aside0 ((w12.setRow g4 #[.int .i64 k, .int .i64 x, .int .i64 0, .slice none 0 0]).heap[g4]? = some (.cells #[.int .i64 k, .int .i64 x, .int .i64 0, .slice none 0 0] 28 (0, 0))) := ⟨setRow_heap _ _ _ _ _ _ BK4.out⟩; have n8_ := Aside0.mk (below_setRow HB.out GE4.out #[.int .i64 k, .int .i64 x, .int .i64 0, .slice none 0 0]); generalize w12.setRow g4 #[.int .i64 k, .int .i64 x, .int .i64 0, .slice none 0 0] = wz at n9_ n8_ ⊢))
    refine bodyPost_ret (results_ct rfl _ _ g4 28 #[.int .i64 k, .int .i64 x, .int .i64 0, .slice none 0 0] (0, 0) _ rfl n9_.out Tryd.underlying28 rfl (by kernel_rfl)) rfl ?_
    exact ⟨rfl, n8_.out⟩
set_option maxRecDepth 100000 in
set_option maxHeartbeats 4000000 in
theorem one_h5 (t : ByteArray) (k : Nat) (A : Option Addr) (c : Nat) (x : Int) (r : List Int) (w : World) (hr : Kd.C (Kd.int .i64) w A (r.length + 1) (x :: r)) (hc : (r.length + 1) ≤ c) (h : opOf t = k) (h1 : 1 ≤ k) (h2 : k ≤ 27) (hh : hasAt k = 5) :
    Calls Tryd.prog 62 #[.string t, .slice A (r.length + 1) c] w fun e w' => e = .returned (.tuple #[.agg #[.int .i64 k, .int .i64 x, .int .i64 0, .slice (tailA A c) r.length (c - 1)], .bool true]) ∧ Below w.heap.size w w' := by
  have hu28 := Tryd.underlying28
  have hix := fun W => index_at W k (by omega)
  rw [hh] at hix
  have hfd := field_has (nameAt k) 5
  have hk0 : ((k : Int) == 0) = false := by simp; omega
  have HO := Aside0.mk h
  have HR := Aside0.mk hr
  obtain ⟨A1, c1, hA1, hAb1⟩ := slice_one A r.length c (by omega)
  replace hA1 : ∀ W : World, (Instr.slice 26 (.slice A (r.length + 1) c) (some (.int .i64 1)) none none).run Tryd.prog W = .ok (.slice A1 r.length c1) W := hA1
  have X0 := Aside0.mk (num_at0 hr x rfl)
  clear h hh hr
  go_enter Tryd.func62, Tryd.ntmps62
  go_wp2_with (first
    | ((with_reducible refine gate_dst (N := 4) rfl ?_); refine box_event ?hg (N := 4) ?hd (cs := #[.int .i64 0, .int .i64 0, .int .i64 0, .slice none 0 0]) (t := 28) ?hr ?_; (case hd => rfl); (case hg => rfl); (case hr => first | (go_simp; done) | (go_simp; rfl)); intro g4 hg w2 hbox hb; have BK4 := Aside0.mk hbox; have HB := Aside0.mk hb; have GE4 := Aside0.mk (Nat.le_of_eq hg.symm); clear hg hbox hb)
    | (go_at_call 11; refine (op_any t _).mono ?_; rw [HO.out]; rintro e w3 ⟨rfl, hb⟩; have n1_ := Aside0.mk (blk_below BK4.out hb); have n3_ := Aside0.mk (below_then HB.out HB.out.size hb); clear BK4 HB hb; have BK4 := n1_; have HB := n3_; clear n1_ n3_)
    | ((with_reducible refine gate_dst (N := 6) rfl ?_); refine box_event ?hg (N := 6) ?hd (cs := #[.int .i64 0, .int .i64 0, .int .i64 0, .slice none 0 0]) (t := 28) ?hr ?_; (case hd => rfl); (case hg => rfl); (case hr => first | (go_simp; done) | (go_simp; rfl)); intro g6 hg w4 hbox hb; have BK6 := Aside0.mk hbox; have GE6 := Aside0.mk (show w.heap.size ≤ g6 by rw [hg]; exact HB.out.size); have NE := Aside0.mk (show g4 ≠ g6 by rw [hg]; exact Nat.ne_of_lt (blk_lt BK4.out)); have n1_ := Aside0.mk (blk_below BK4.out hb); have n3_ := Aside0.mk (below_then HB.out HB.out.size hb); clear BK4 HB; have BK4 := n1_; have HB := n3_; clear n1_ n3_ hg hbox hb)
    | (refine wpList_store_row rfl 28 (.tmp 6) (.tmp 12) rfl g6 #[.int .i64 k, .int .i64 0, .int .i64 0, .slice none 0 0] rfl rfl 28 _ BK6.out (by kernel_rfl) rfl (by kernel_rfl) ?_; have n0_ : Aside0 ((w4.setRow g6 #[.int .i64 k, .int .i64 0, .int .i64 0, .slice none 0 0]).heap[g6]? = some (.cells #[.int .i64 k, .int .i64 0, .int .i64 0, .slice none 0 0] 28 (0, 0))) := ⟨setRow_heap _ _ _ _ _ _ BK6.out⟩; have n2_ : Aside0 ((w4.setRow g6 #[.int .i64 k, .int .i64 0, .int .i64 0, .slice none 0 0]).heap[g4]? = some (.cells #[.int .i64 0, .int .i64 0, .int .i64 0, .slice none 0 0] 28 (0, 0))) := ⟨(setRow_other _ _ _ _ NE.out).trans BK4.out⟩; have n1_ := Aside0.mk (below_setRow HB.out GE6.out #[.int .i64 k, .int .i64 0, .int .i64 0, .slice none 0 0]); generalize w4.setRow g6 #[.int .i64 k, .int .i64 0, .int .i64 0, .slice none 0 0] = w5 at n0_ n1_ n2_ ⊢; clear BK4 BK6 HB; have BK6 := n0_; have BK4 := n2_; have HB := n1_; clear n0_ n1_ n2_; have y0 : w5.cell? ⟨g6, 0, none⟩ = some (.int .i64 k) := (blk_cell BK6.out 0).trans rfl; have y1 : w5.cell? ⟨g6, 1, none⟩ = some (.int .i64 0) := (blk_cell BK6.out 1).trans rfl; have y2 : w5.cell? ⟨g6, 2, none⟩ = some (.int .i64 0) := (blk_cell BK6.out 2).trans rfl; have y3 : w5.cell? ⟨g6, 3, none⟩ = some (.slice none 0 0) := (blk_cell BK6.out 3).trans rfl))
  clear y1 y2 y3
  go_cut [7] (fun v7 wc => v7 = .int .i64 5 ∧ Aside0 (wc.heap[g6]? = some (.cells #[.int .i64 k, .int .i64 0, .int .i64 0, .slice none 0 0] 28 (0, 0))) ∧ Aside0 (wc.heap[g4]? = some (.cells #[.int .i64 0, .int .i64 0, .int .i64 0, .slice none 0 0] 28 (0, 0))) ∧ Aside0 (Below w.heap.size w wc))
  case first =>
    have y1 : ∀ o : Obj, (w5.alloc o).cell? ⟨g6, 0, none⟩ = some (.int .i64 k) := fun o => pw_cell_below (below_alloc (Below.refl _ w5) o) y0
    go_region_with (go_at_call 31; refine (table_any _).mono ?_; rintro e w2 ⟨rfl, rfl⟩)
    all_goals go_wp2_with (fail)
    all_goals go_meet
    all_goals exact ⟨rfl, ⟨blk_below BK6.out (below_drew (below_alloc (Below.refl _ _) _))⟩, ⟨blk_below BK4.out (below_drew (below_alloc (Below.refl _ _) _))⟩, ⟨below_then HB.out HB.out.size (below_drew (below_alloc (Below.refl _ _) _))⟩⟩
  case rest =>
    obtain ⟨rfl, BK6, BK4, HB⟩ := hcut
    go_wp2_with (fail)
    have BKP := Aside0.mk (blk_new wc (.cells #[.int .i64 1, .pointer (some ⟨g6, 1, none⟩), .int .i64 2, .pointer (some ⟨g6, 2, none⟩)] 105))
    have GP := Aside0.mk (show g6 ≠ wc.heap.size from Nat.ne_of_lt (blk_lt BK6.out))
    have n0_ := Aside0.mk (blk_below BK6.out (below_alloc (Below.refl _ wc) (.cells #[.int .i64 1, .pointer (some ⟨g6, 1, none⟩), .int .i64 2, .pointer (some ⟨g6, 2, none⟩)] 105)))
    have n1_ := Aside0.mk (blk_below BK4.out (below_alloc (Below.refl _ wc) (.cells #[.int .i64 1, .pointer (some ⟨g6, 1, none⟩), .int .i64 2, .pointer (some ⟨g6, 2, none⟩)] 105)))
    have n2_ := Aside0.mk (below_then HB.out HB.out.size (below_alloc (Below.refl _ wc) (.cells #[.int .i64 1, .pointer (some ⟨g6, 1, none⟩), .int .i64 2, .pointer (some ⟨g6, 2, none⟩)] 105)))
    generalize wc.heap.size = gp at BKP GP ⊢
    generalize wc.alloc (.cells #[.int .i64 1, .pointer (some ⟨g6, 1, none⟩), .int .i64 2, .pointer (some ⟨g6, 2, none⟩)] 105) = w8 at BKP n0_ n1_ n2_ ⊢
    clear BK6 BK4 HB
    have BK6 := n0_
    have BK4 := n1_
    have HB := n2_
    clear n0_ n1_ n2_
    refine wp_loop_rounds 3 ?_
    rw [rounds_succ]
    have p0 : w8.cell? ⟨gp, 0, none⟩ = some (.int .i64 1) := (blk_cell BKP.out 0).trans rfl
    have p1 : w8.cell? ⟨gp, 1, none⟩ = some (.pointer (some ⟨g6, 1, none⟩)) := (blk_cell BKP.out 1).trans rfl
    have hn0 : ((((r.length + 1) : Nat) : Int) == 0) = false := by simp; try omega
    go_wp2_with (fail)
    have n0_ := Aside0.mk (blk_below BK6.out (below_alloc (Below.refl _ w8) (.cells #[.int .i64 1, .pointer (some ⟨g6, 1, none⟩)] 105)))
    have n1_ := Aside0.mk (blk_below BK4.out (below_alloc (Below.refl _ w8) (.cells #[.int .i64 1, .pointer (some ⟨g6, 1, none⟩)] 105)))
    have n3_ := Aside0.mk (blk_below BKP.out (below_alloc (Below.refl _ w8) (.cells #[.int .i64 1, .pointer (some ⟨g6, 1, none⟩)] 105)))
    have n2_ := Aside0.mk (below_then HB.out HB.out.size (below_alloc (Below.refl _ w8) (.cells #[.int .i64 1, .pointer (some ⟨g6, 1, none⟩)] 105)))
    have n4_ := Aside0.mk (blk_new w8 (.cells #[.int .i64 1, .pointer (some ⟨g6, 1, none⟩)] 105))
    generalize w8.alloc (.cells #[.int .i64 1, .pointer (some ⟨g6, 1, none⟩)] 105) = w9 at n0_ n1_ n2_ n3_ n4_ ⊢
    generalize w8.heap.size = g9 at n4_ ⊢
    clear BK6 BK4 HB BKP p0 p1
    have BK6 := n0_
    have BK4 := n1_
    have HB := n2_
    have BKP := n3_
    clear n0_ n1_ n2_ n3_
    have q1 : w9.cell? ⟨g9, 1, none⟩ = some (.pointer (some ⟨g6, 1, none⟩)) := (blk_cell n4_.out 1).trans rfl
    obtain ⟨ad0, hAD, q2⟩ := X0.out
    subst hAD
    replace q2 := pw_cell_below HB.out q2
    have q3 : w9.cell? ⟨g6, 1, none⟩ = some (.int .i64 0) := (blk_cell BK6.out 1).trans rfl
    have q4 : w9.frozen? ⟨g6, 1, none⟩ = false := blk_frozen BK6.out 1
    go_region
    have n0_ := Aside0.mk (blk_drew (blk_put (cs := #[.int .i64 k, .int .i64 0, .int .i64 0, .slice none 0 0]) (cs' := #[.int .i64 k, .int .i64 x, .int .i64 0, .slice none 0 0]) BK6.out 1 (.int .i64 x) rfl))
    have n1_ := Aside0.mk (blk_drew (blk_far BK4.out (p := ⟨g6, 1, none⟩) NE.out (.int .i64 x)))
    have n2_ := Aside0.mk (below_drew1 (below_set (g := g6) (j := 1) (v := .int .i64 x) HB.out GE6.out))
    have n3_ := Aside0.mk (blk_drew (blk_far BKP.out (p := ⟨g6, 1, none⟩) (Ne.symm GP.out) (.int .i64 x)))
    generalize (w9.setCell ⟨g6, 1, none⟩ (.int .i64 x)).drew = w10 at n0_ n1_ n2_ n3_ ⊢
    clear BK6 BK4 HB BKP q1 q2 q3 q4
    have BK6 := n0_
    have BK4 := n1_
    have HB := n2_
    have BKP := n3_
    clear n0_ n1_ n2_ n3_ n4_
    go_wp2_with (fail)
    clear hn0
    rw [rounds_succ]
    have p2 : w10.cell? ⟨gp, 2, none⟩ = some (.int .i64 2) := (blk_cell BKP.out 2).trans rfl
    have p3 : w10.cell? ⟨gp, 3, none⟩ = some (.pointer (some ⟨g6, 2, none⟩)) := (blk_cell BKP.out 3).trans rfl
    go_wp2_with (fail)
    have n0_ := Aside0.mk (blk_below BK6.out (below_alloc (Below.refl _ w10) (.cells #[.int .i64 2, .pointer (some ⟨g6, 2, none⟩)] 105)))
    have n1_ := Aside0.mk (blk_below BK4.out (below_alloc (Below.refl _ w10) (.cells #[.int .i64 2, .pointer (some ⟨g6, 2, none⟩)] 105)))
    have n3_ := Aside0.mk (blk_below BKP.out (below_alloc (Below.refl _ w10) (.cells #[.int .i64 2, .pointer (some ⟨g6, 2, none⟩)] 105)))
    have n2_ := Aside0.mk (below_then HB.out HB.out.size (below_alloc (Below.refl _ w10) (.cells #[.int .i64 2, .pointer (some ⟨g6, 2, none⟩)] 105)))
    generalize w10.alloc (.cells #[.int .i64 2, .pointer (some ⟨g6, 2, none⟩)] 105) = w12 at n0_ n1_ n2_ n3_ ⊢
    clear BK6 BK4 HB BKP p2 p3
    have BK6 := n0_
    have BK4 := n1_
    have HB := n2_
    have BKP := n3_
    clear n0_ n1_ n2_ n3_
    rw [rounds_succ]
    have y0 : w12.cell? ⟨g6, 0, none⟩ = some (.int .i64 k) := (blk_cell BK6.out 0).trans rfl
    have y1 : w12.cell? ⟨g6, 1, none⟩ = some (.int .i64 x) := (blk_cell BK6.out 1).trans rfl
    have y2 : w12.cell? ⟨g6, 2, none⟩ = some (.int .i64 0) := (blk_cell BK6.out 2).trans rfl
    have y3 : w12.cell? ⟨g6, 3, none⟩ = some (.slice none 0 0) := (blk_cell BK6.out 3).trans rfl
    have z0 := blk_frozen BK6.out 3
    go_wp2_with (first | (refine store_event rfl rfl rfl (by first | (go_simp; done) | (go_simp; rfl)) ?_; intro wy hy; have n0_ : Aside0 (wy.heap[g6]? = some (.cells #[.int .i64 k, .int .i64 x, .int .i64 0, .slice A1 r.length c1] 28 (0, 0))) := ⟨by rw [hy]; exact blk_put (cs := #[.int .i64 k, .int .i64 x, .int .i64 0, .slice none 0 0]) BK6.out 3 (.slice A1 r.length c1) rfl⟩; have n1_ : Aside0 (wy.heap[g4]? = some (.cells #[.int .i64 0, .int .i64 0, .int .i64 0, .slice none 0 0] 28 (0, 0))) := ⟨by rw [hy]; exact blk_far BK4.out (p := ⟨g6, 3, none⟩) NE.out (.slice A1 r.length c1)⟩; have n2_ : Aside0 (Below w.heap.size w wy) := ⟨by rw [hy]; exact below_set (g := g6) (j := 3) (v := .slice A1 r.length c1) HB.out GE6.out⟩; clear hy BK6 BK4 HB y0 y1 y2 y3 z0; have BK6 := n0_; have BK4 := n1_; have HB := n2_; clear n0_ n1_ n2_; have y0 : wy.cell? ⟨g6, 0, none⟩ = some (.int .i64 k) := (blk_cell BK6.out 0).trans rfl; have y1 : wy.cell? ⟨g6, 1, none⟩ = some (.int .i64 x) := (blk_cell BK6.out 1).trans rfl; have y2 : wy.cell? ⟨g6, 2, none⟩ = some (.int .i64 0) := (blk_cell BK6.out 2).trans rfl; have y3 : wy.cell? ⟨g6, 3, none⟩ = some (.slice A1 r.length c1) := (blk_cell BK6.out 3).trans rfl) | (refine wpList_store_row rfl 28 (.tmp 4) (.tmp 55) rfl g4 #[.int .i64 k, .int .i64 x, .int .i64 0, .slice A1 r.length c1] rfl rfl 28 _ BK4.out (by kernel_rfl) rfl (by kernel_rfl) ?_; have n9_ : Aside0 ((wy.setRow g4 #[.int .i64 k, .int .i64 x, .int .i64 0, .slice A1 r.length c1]).heap[g4]? = some (.cells #[.int .i64 k, .int .i64 x, .int .i64 0, .slice A1 r.length c1] 28 (0, 0))) := ⟨setRow_heap _ _ _ _ _ _ BK4.out⟩; have n8_ := Aside0.mk (below_setRow HB.out GE4.out #[.int .i64 k, .int .i64 x, .int .i64 0, .slice A1 r.length c1]); generalize wy.setRow g4 #[.int .i64 k, .int .i64 x, .int .i64 0, .slice A1 r.length c1] = wz at n9_ n8_ ⊢))
    refine bodyPost_ret (results_ct rfl _ _ g4 28 #[.int .i64 k, .int .i64 x, .int .i64 0, .slice A1 r.length c1] (0, 0) _ rfl n9_.out Tryd.underlying28 rfl (by kernel_rfl)) rfl ?_
    exact ⟨(by rw [hAb1.out.1, hAb1.out.2]; rfl), n8_.out⟩
set_option maxRecDepth 100000 in
set_option maxHeartbeats 4000000 in
theorem one_h3 (t : ByteArray) (k : Nat) (A : Option Addr) (c : Nat) (x : Int) (y : Int) (r : List Int) (w : World) (hr : Kd.C (Kd.int .i64) w A (r.length + 2) (x :: y :: r)) (hc : (r.length + 2) ≤ c) (h : opOf t = k) (h1 : 1 ≤ k) (h2 : k ≤ 27) (hh : hasAt k = 3) :
    Calls Tryd.prog 62 #[.string t, .slice A (r.length + 2) c] w fun e w' => e = .returned (.tuple #[.agg #[.int .i64 k, .int .i64 x, .int .i64 y, .slice none 0 0], .bool ((r.length : Int) == 0)]) ∧ Below w.heap.size w w' := by
  have hu28 := Tryd.underlying28
  have hix := fun W => index_at W k (by omega)
  rw [hh] at hix
  have hfd := field_has (nameAt k) 3
  have hk0 : ((k : Int) == 0) = false := by simp; omega
  have HO := Aside0.mk h
  have HR := Aside0.mk hr
  obtain ⟨A1, c1, hA1, hAb1⟩ := slice_one A (r.length + 1) c (by omega)
  replace hA1 : ∀ W : World, (Instr.slice 26 (.slice A (r.length + 2) c) (some (.int .i64 1)) none none).run Tryd.prog W = .ok (.slice A1 (r.length + 1) c1) W := hA1
  obtain ⟨A2, c2, hA2, hAb2⟩ := slice_one A1 r.length c1 (by have := hAb1.out.2; omega)
  replace hA2 : ∀ W : World, (Instr.slice 26 (.slice A1 (r.length + 1) c1) (some (.int .i64 1)) none none).run Tryd.prog W = .ok (.slice A2 r.length c2) W := hA2
  have X0 := Aside0.mk (num_at0 hr x rfl)
  have X1 := Aside0.mk (num_at hr 1 y rfl)
  clear h hh hr
  go_enter Tryd.func62, Tryd.ntmps62
  go_wp2_with (first
    | ((with_reducible refine gate_dst (N := 4) rfl ?_); refine box_event ?hg (N := 4) ?hd (cs := #[.int .i64 0, .int .i64 0, .int .i64 0, .slice none 0 0]) (t := 28) ?hr ?_; (case hd => rfl); (case hg => rfl); (case hr => first | (go_simp; done) | (go_simp; rfl)); intro g4 hg w2 hbox hb; have BK4 := Aside0.mk hbox; have HB := Aside0.mk hb; have GE4 := Aside0.mk (Nat.le_of_eq hg.symm); clear hg hbox hb)
    | (go_at_call 11; refine (op_any t _).mono ?_; rw [HO.out]; rintro e w3 ⟨rfl, hb⟩; have n1_ := Aside0.mk (blk_below BK4.out hb); have n3_ := Aside0.mk (below_then HB.out HB.out.size hb); clear BK4 HB hb; have BK4 := n1_; have HB := n3_; clear n1_ n3_)
    | ((with_reducible refine gate_dst (N := 6) rfl ?_); refine box_event ?hg (N := 6) ?hd (cs := #[.int .i64 0, .int .i64 0, .int .i64 0, .slice none 0 0]) (t := 28) ?hr ?_; (case hd => rfl); (case hg => rfl); (case hr => first | (go_simp; done) | (go_simp; rfl)); intro g6 hg w4 hbox hb; have BK6 := Aside0.mk hbox; have GE6 := Aside0.mk (show w.heap.size ≤ g6 by rw [hg]; exact HB.out.size); have NE := Aside0.mk (show g4 ≠ g6 by rw [hg]; exact Nat.ne_of_lt (blk_lt BK4.out)); have n1_ := Aside0.mk (blk_below BK4.out hb); have n3_ := Aside0.mk (below_then HB.out HB.out.size hb); clear BK4 HB; have BK4 := n1_; have HB := n3_; clear n1_ n3_ hg hbox hb)
    | (refine wpList_store_row rfl 28 (.tmp 6) (.tmp 12) rfl g6 #[.int .i64 k, .int .i64 0, .int .i64 0, .slice none 0 0] rfl rfl 28 _ BK6.out (by kernel_rfl) rfl (by kernel_rfl) ?_; have n0_ : Aside0 ((w4.setRow g6 #[.int .i64 k, .int .i64 0, .int .i64 0, .slice none 0 0]).heap[g6]? = some (.cells #[.int .i64 k, .int .i64 0, .int .i64 0, .slice none 0 0] 28 (0, 0))) := ⟨setRow_heap _ _ _ _ _ _ BK6.out⟩; have n2_ : Aside0 ((w4.setRow g6 #[.int .i64 k, .int .i64 0, .int .i64 0, .slice none 0 0]).heap[g4]? = some (.cells #[.int .i64 0, .int .i64 0, .int .i64 0, .slice none 0 0] 28 (0, 0))) := ⟨(setRow_other _ _ _ _ NE.out).trans BK4.out⟩; have n1_ := Aside0.mk (below_setRow HB.out GE6.out #[.int .i64 k, .int .i64 0, .int .i64 0, .slice none 0 0]); generalize w4.setRow g6 #[.int .i64 k, .int .i64 0, .int .i64 0, .slice none 0 0] = w5 at n0_ n1_ n2_ ⊢; clear BK4 BK6 HB; have BK6 := n0_; have BK4 := n2_; have HB := n1_; clear n0_ n1_ n2_; have y0 : w5.cell? ⟨g6, 0, none⟩ = some (.int .i64 k) := (blk_cell BK6.out 0).trans rfl; have y1 : w5.cell? ⟨g6, 1, none⟩ = some (.int .i64 0) := (blk_cell BK6.out 1).trans rfl; have y2 : w5.cell? ⟨g6, 2, none⟩ = some (.int .i64 0) := (blk_cell BK6.out 2).trans rfl; have y3 : w5.cell? ⟨g6, 3, none⟩ = some (.slice none 0 0) := (blk_cell BK6.out 3).trans rfl))
  clear y1 y2 y3
  go_cut [7] (fun v7 wc => v7 = .int .i64 3 ∧ Aside0 (wc.heap[g6]? = some (.cells #[.int .i64 k, .int .i64 0, .int .i64 0, .slice none 0 0] 28 (0, 0))) ∧ Aside0 (wc.heap[g4]? = some (.cells #[.int .i64 0, .int .i64 0, .int .i64 0, .slice none 0 0] 28 (0, 0))) ∧ Aside0 (Below w.heap.size w wc))
  case first =>
    have y1 : ∀ o : Obj, (w5.alloc o).cell? ⟨g6, 0, none⟩ = some (.int .i64 k) := fun o => pw_cell_below (below_alloc (Below.refl _ w5) o) y0
    go_region_with (go_at_call 31; refine (table_any _).mono ?_; rintro e w2 ⟨rfl, rfl⟩)
    all_goals go_wp2_with (fail)
    all_goals go_meet
    all_goals exact ⟨rfl, ⟨blk_below BK6.out (below_drew (below_alloc (Below.refl _ _) _))⟩, ⟨blk_below BK4.out (below_drew (below_alloc (Below.refl _ _) _))⟩, ⟨below_then HB.out HB.out.size (below_drew (below_alloc (Below.refl _ _) _))⟩⟩
  case rest =>
    obtain ⟨rfl, BK6, BK4, HB⟩ := hcut
    go_wp2_with (fail)
    have BKP := Aside0.mk (blk_new wc (.cells #[.int .i64 1, .pointer (some ⟨g6, 1, none⟩), .int .i64 2, .pointer (some ⟨g6, 2, none⟩)] 105))
    have GP := Aside0.mk (show g6 ≠ wc.heap.size from Nat.ne_of_lt (blk_lt BK6.out))
    have n0_ := Aside0.mk (blk_below BK6.out (below_alloc (Below.refl _ wc) (.cells #[.int .i64 1, .pointer (some ⟨g6, 1, none⟩), .int .i64 2, .pointer (some ⟨g6, 2, none⟩)] 105)))
    have n1_ := Aside0.mk (blk_below BK4.out (below_alloc (Below.refl _ wc) (.cells #[.int .i64 1, .pointer (some ⟨g6, 1, none⟩), .int .i64 2, .pointer (some ⟨g6, 2, none⟩)] 105)))
    have n2_ := Aside0.mk (below_then HB.out HB.out.size (below_alloc (Below.refl _ wc) (.cells #[.int .i64 1, .pointer (some ⟨g6, 1, none⟩), .int .i64 2, .pointer (some ⟨g6, 2, none⟩)] 105)))
    generalize wc.heap.size = gp at BKP GP ⊢
    generalize wc.alloc (.cells #[.int .i64 1, .pointer (some ⟨g6, 1, none⟩), .int .i64 2, .pointer (some ⟨g6, 2, none⟩)] 105) = w8 at BKP n0_ n1_ n2_ ⊢
    clear BK6 BK4 HB
    have BK6 := n0_
    have BK4 := n1_
    have HB := n2_
    clear n0_ n1_ n2_
    refine wp_loop_rounds 3 ?_
    rw [rounds_succ]
    have p0 : w8.cell? ⟨gp, 0, none⟩ = some (.int .i64 1) := (blk_cell BKP.out 0).trans rfl
    have p1 : w8.cell? ⟨gp, 1, none⟩ = some (.pointer (some ⟨g6, 1, none⟩)) := (blk_cell BKP.out 1).trans rfl
    have hn0 : ((((r.length + 2) : Nat) : Int) == 0) = false := by simp; try omega
    go_wp2_with (fail)
    have n0_ := Aside0.mk (blk_below BK6.out (below_alloc (Below.refl _ w8) (.cells #[.int .i64 1, .pointer (some ⟨g6, 1, none⟩)] 105)))
    have n1_ := Aside0.mk (blk_below BK4.out (below_alloc (Below.refl _ w8) (.cells #[.int .i64 1, .pointer (some ⟨g6, 1, none⟩)] 105)))
    have n3_ := Aside0.mk (blk_below BKP.out (below_alloc (Below.refl _ w8) (.cells #[.int .i64 1, .pointer (some ⟨g6, 1, none⟩)] 105)))
    have n2_ := Aside0.mk (below_then HB.out HB.out.size (below_alloc (Below.refl _ w8) (.cells #[.int .i64 1, .pointer (some ⟨g6, 1, none⟩)] 105)))
    have n4_ := Aside0.mk (blk_new w8 (.cells #[.int .i64 1, .pointer (some ⟨g6, 1, none⟩)] 105))
    generalize w8.alloc (.cells #[.int .i64 1, .pointer (some ⟨g6, 1, none⟩)] 105) = w9 at n0_ n1_ n2_ n3_ n4_ ⊢
    generalize w8.heap.size = g9 at n4_ ⊢
    clear BK6 BK4 HB BKP p0 p1
    have BK6 := n0_
    have BK4 := n1_
    have HB := n2_
    have BKP := n3_
    clear n0_ n1_ n2_ n3_
    have q1 : w9.cell? ⟨g9, 1, none⟩ = some (.pointer (some ⟨g6, 1, none⟩)) := (blk_cell n4_.out 1).trans rfl
    obtain ⟨ad0, hAD, q2⟩ := X0.out
    subst hAD
    replace q2 := pw_cell_below HB.out q2
    have q3 : w9.cell? ⟨g6, 1, none⟩ = some (.int .i64 0) := (blk_cell BK6.out 1).trans rfl
    have q4 : w9.frozen? ⟨g6, 1, none⟩ = false := blk_frozen BK6.out 1
    go_region
    have n0_ := Aside0.mk (blk_drew (blk_put (cs := #[.int .i64 k, .int .i64 0, .int .i64 0, .slice none 0 0]) (cs' := #[.int .i64 k, .int .i64 x, .int .i64 0, .slice none 0 0]) BK6.out 1 (.int .i64 x) rfl))
    have n1_ := Aside0.mk (blk_drew (blk_far BK4.out (p := ⟨g6, 1, none⟩) NE.out (.int .i64 x)))
    have n2_ := Aside0.mk (below_drew1 (below_set (g := g6) (j := 1) (v := .int .i64 x) HB.out GE6.out))
    have n3_ := Aside0.mk (blk_drew (blk_far BKP.out (p := ⟨g6, 1, none⟩) (Ne.symm GP.out) (.int .i64 x)))
    generalize (w9.setCell ⟨g6, 1, none⟩ (.int .i64 x)).drew = w10 at n0_ n1_ n2_ n3_ ⊢
    clear BK6 BK4 HB BKP q1 q2 q3 q4
    have BK6 := n0_
    have BK4 := n1_
    have HB := n2_
    have BKP := n3_
    clear n0_ n1_ n2_ n3_ n4_
    go_wp2_with (fail)
    clear hn0
    rw [rounds_succ]
    have p2 : w10.cell? ⟨gp, 2, none⟩ = some (.int .i64 2) := (blk_cell BKP.out 2).trans rfl
    have p3 : w10.cell? ⟨gp, 3, none⟩ = some (.pointer (some ⟨g6, 2, none⟩)) := (blk_cell BKP.out 3).trans rfl
    have hn0 : ((((r.length + 1) : Nat) : Int) == 0) = false := by simp; try omega
    go_wp2_with (fail)
    have n0_ := Aside0.mk (blk_below BK6.out (below_alloc (Below.refl _ w10) (.cells #[.int .i64 2, .pointer (some ⟨g6, 2, none⟩)] 105)))
    have n1_ := Aside0.mk (blk_below BK4.out (below_alloc (Below.refl _ w10) (.cells #[.int .i64 2, .pointer (some ⟨g6, 2, none⟩)] 105)))
    have n3_ := Aside0.mk (blk_below BKP.out (below_alloc (Below.refl _ w10) (.cells #[.int .i64 2, .pointer (some ⟨g6, 2, none⟩)] 105)))
    have n2_ := Aside0.mk (below_then HB.out HB.out.size (below_alloc (Below.refl _ w10) (.cells #[.int .i64 2, .pointer (some ⟨g6, 2, none⟩)] 105)))
    have n4_ := Aside0.mk (blk_new w10 (.cells #[.int .i64 2, .pointer (some ⟨g6, 2, none⟩)] 105))
    generalize w10.alloc (.cells #[.int .i64 2, .pointer (some ⟨g6, 2, none⟩)] 105) = w12 at n0_ n1_ n2_ n3_ n4_ ⊢
    generalize w10.heap.size = g10 at n4_ ⊢
    clear BK6 BK4 HB BKP p2 p3
    have BK6 := n0_
    have BK4 := n1_
    have HB := n2_
    have BKP := n3_
    clear n0_ n1_ n2_ n3_
    have q1 : w12.cell? ⟨g10, 1, none⟩ = some (.pointer (some ⟨g6, 2, none⟩)) := (blk_cell n4_.out 1).trans rfl
    obtain ⟨ad1, hAD, q2⟩ := (by obtain ⟨a, e, q⟩ := X1.out; exact ⟨a.add 1, by rw [hAb1.out.1, tailA, if_neg (by omega), e]; rfl, q⟩ : ∃ ad1, A1 = some ad1 ∧ w.cell? ad1 = some (.int .i64 y))
    subst hAD
    replace q2 := pw_cell_below HB.out q2
    have q3 : w12.cell? ⟨g6, 2, none⟩ = some (.int .i64 0) := (blk_cell BK6.out 2).trans rfl
    have q4 : w12.frozen? ⟨g6, 2, none⟩ = false := blk_frozen BK6.out 2
    go_region
    have n0_ := Aside0.mk (blk_drew (blk_put (cs := #[.int .i64 k, .int .i64 x, .int .i64 0, .slice none 0 0]) (cs' := #[.int .i64 k, .int .i64 x, .int .i64 y, .slice none 0 0]) BK6.out 2 (.int .i64 y) rfl))
    have n1_ := Aside0.mk (blk_drew (blk_far BK4.out (p := ⟨g6, 2, none⟩) NE.out (.int .i64 y)))
    have n2_ := Aside0.mk (below_drew1 (below_set (g := g6) (j := 2) (v := .int .i64 y) HB.out GE6.out))
    have n3_ := Aside0.mk (blk_drew (blk_far BKP.out (p := ⟨g6, 2, none⟩) (Ne.symm GP.out) (.int .i64 y)))
    generalize (w12.setCell ⟨g6, 2, none⟩ (.int .i64 y)).drew = w13 at n0_ n1_ n2_ n3_ ⊢
    clear BK6 BK4 HB BKP q1 q2 q3 q4
    have BK6 := n0_
    have BK4 := n1_
    have HB := n2_
    have BKP := n3_
    clear n0_ n1_ n2_ n3_ n4_
    go_wp2_with (fail)
    clear hn0
    rw [rounds_succ]
    have y0 : w13.cell? ⟨g6, 0, none⟩ = some (.int .i64 k) := (blk_cell BK6.out 0).trans rfl
    have y1 : w13.cell? ⟨g6, 1, none⟩ = some (.int .i64 x) := (blk_cell BK6.out 1).trans rfl
    have y2 : w13.cell? ⟨g6, 2, none⟩ = some (.int .i64 y) := (blk_cell BK6.out 2).trans rfl
    have y3 : w13.cell? ⟨g6, 3, none⟩ = some (.slice none 0 0) := (blk_cell BK6.out 3).trans rfl
    go_wp2_with (first | (refine wpList_store_row rfl 28 (.tmp 4) (.tmp 56) rfl g4 #[.int .i64 k, .int .i64 x, .int .i64 y, .slice none 0 0] rfl rfl 28 _ BK4.out (by kernel_rfl) rfl (by kernel_rfl) ?_; have n9_ : Aside0 ((w13.setRow g4 #[.int .i64 k, .int .i64 x, .int .i64 y, .slice none 0 0]).heap[g4]? = some (.cells #[.int .i64 k, .int .i64 x, .int .i64 y, .slice none 0 0] 28 (0, 0))) := ⟨setRow_heap _ _ _ _ _ _ BK4.out⟩; have n8_ := Aside0.mk (below_setRow HB.out GE4.out #[.int .i64 k, .int .i64 x, .int .i64 y, .slice none 0 0]); generalize w13.setRow g4 #[.int .i64 k, .int .i64 x, .int .i64 y, .slice none 0 0] = wz at n9_ n8_ ⊢))
    refine bodyPost_ret (results_ct rfl _ _ g4 28 #[.int .i64 k, .int .i64 x, .int .i64 y, .slice none 0 0] (0, 0) _ rfl n9_.out Tryd.underlying28 rfl (by kernel_rfl)) rfl ?_
    exact ⟨rfl, n8_.out⟩
end Go.Proofs.YtfkfgjmhcfagkaaDoor.Given
end
section
namespace Go.Proofs.YtfkfgjmhcfagkaaDoor.Given
open Go.RowKit Go.Proofs.YtfkfgjmhcfagkaaDoorW.PrintWords Go.Proofs.YtfkfgjmhcfagkaaDoorW.PrintLast Go.Proofs.YtfkfgjmhcfagkaaDoorW.PrintMore Go.Proofs.YtfkfgjmhcfagkaaDoor.Print
set_option linter.unusedVariables false
set_option linter.unusedSimpArgs false
set_option maxRecDepth 100000 in
set_option maxHeartbeats 4000000 in
theorem one_h1n (t : ByteArray) (k : Nat) (A : Option Addr) (c : Nat) (w : World) (hr : Kd.C (Kd.int .i64) w A 0 ([])) (hc : 0 ≤ c) (h : opOf t = k) (h1 : 1 ≤ k) (h2 : k ≤ 27) (hh : hasAt k = 1) :
    Calls Tryd.prog 62 #[.string t, .slice A 0 c] w fun e w' => (∃ a b c : Int, e = .returned (.tuple #[.agg #[.int .i64 a, .int .i64 b, .int .i64 c, .slice none 0 0], .bool false])) ∧ Below w.heap.size w w' := by
  have hu28 := Tryd.underlying28
  have hix := fun W => index_at W k (by omega)
  rw [hh] at hix
  have hfd := field_has (nameAt k) 1
  have hk0 : ((k : Int) == 0) = false := by simp; omega
  have HO := Aside0.mk h
  have HR := Aside0.mk hr
  clear h hh hr
  go_enter Tryd.func62, Tryd.ntmps62
  go_wp2_with (first
    | ((with_reducible refine gate_dst (N := 4) rfl ?_); refine box_event ?hg (N := 4) ?hd (cs := #[.int .i64 0, .int .i64 0, .int .i64 0, .slice none 0 0]) (t := 28) ?hr ?_; (case hd => rfl); (case hg => rfl); (case hr => first | (go_simp; done) | (go_simp; rfl)); intro g4 hg w2 hbox hb; have BK4 := Aside0.mk hbox; have HB := Aside0.mk hb; have GE4 := Aside0.mk (Nat.le_of_eq hg.symm); clear hg hbox hb)
    | (go_at_call 11; refine (op_any t _).mono ?_; rw [HO.out]; rintro e w3 ⟨rfl, hb⟩; have n1_ := Aside0.mk (blk_below BK4.out hb); have n3_ := Aside0.mk (below_then HB.out HB.out.size hb); clear BK4 HB hb; have BK4 := n1_; have HB := n3_; clear n1_ n3_)
    | ((with_reducible refine gate_dst (N := 6) rfl ?_); refine box_event ?hg (N := 6) ?hd (cs := #[.int .i64 0, .int .i64 0, .int .i64 0, .slice none 0 0]) (t := 28) ?hr ?_; (case hd => rfl); (case hg => rfl); (case hr => first | (go_simp; done) | (go_simp; rfl)); intro g6 hg w4 hbox hb; have BK6 := Aside0.mk hbox; have GE6 := Aside0.mk (show w.heap.size ≤ g6 by rw [hg]; exact HB.out.size); have NE := Aside0.mk (show g4 ≠ g6 by rw [hg]; exact Nat.ne_of_lt (blk_lt BK4.out)); have n1_ := Aside0.mk (blk_below BK4.out hb); have n3_ := Aside0.mk (below_then HB.out HB.out.size hb); clear BK4 HB; have BK4 := n1_; have HB := n3_; clear n1_ n3_ hg hbox hb)
    | (refine wpList_store_row rfl 28 (.tmp 6) (.tmp 12) rfl g6 #[.int .i64 k, .int .i64 0, .int .i64 0, .slice none 0 0] rfl rfl 28 _ BK6.out (by kernel_rfl) rfl (by kernel_rfl) ?_; have n0_ : Aside0 ((w4.setRow g6 #[.int .i64 k, .int .i64 0, .int .i64 0, .slice none 0 0]).heap[g6]? = some (.cells #[.int .i64 k, .int .i64 0, .int .i64 0, .slice none 0 0] 28 (0, 0))) := ⟨setRow_heap _ _ _ _ _ _ BK6.out⟩; have n2_ : Aside0 ((w4.setRow g6 #[.int .i64 k, .int .i64 0, .int .i64 0, .slice none 0 0]).heap[g4]? = some (.cells #[.int .i64 0, .int .i64 0, .int .i64 0, .slice none 0 0] 28 (0, 0))) := ⟨(setRow_other _ _ _ _ NE.out).trans BK4.out⟩; have n1_ := Aside0.mk (below_setRow HB.out GE6.out #[.int .i64 k, .int .i64 0, .int .i64 0, .slice none 0 0]); generalize w4.setRow g6 #[.int .i64 k, .int .i64 0, .int .i64 0, .slice none 0 0] = w5 at n0_ n1_ n2_ ⊢; clear BK4 BK6 HB; have BK6 := n0_; have BK4 := n2_; have HB := n1_; clear n0_ n1_ n2_; have y0 : w5.cell? ⟨g6, 0, none⟩ = some (.int .i64 k) := (blk_cell BK6.out 0).trans rfl; have y1 : w5.cell? ⟨g6, 1, none⟩ = some (.int .i64 0) := (blk_cell BK6.out 1).trans rfl; have y2 : w5.cell? ⟨g6, 2, none⟩ = some (.int .i64 0) := (blk_cell BK6.out 2).trans rfl; have y3 : w5.cell? ⟨g6, 3, none⟩ = some (.slice none 0 0) := (blk_cell BK6.out 3).trans rfl))
  clear y1 y2 y3
  go_cut [7] (fun v7 wc => v7 = .int .i64 1 ∧ Aside0 (wc.heap[g6]? = some (.cells #[.int .i64 k, .int .i64 0, .int .i64 0, .slice none 0 0] 28 (0, 0))) ∧ Aside0 (wc.heap[g4]? = some (.cells #[.int .i64 0, .int .i64 0, .int .i64 0, .slice none 0 0] 28 (0, 0))) ∧ Aside0 (Below w.heap.size w wc))
  case first =>
    have y1 : ∀ o : Obj, (w5.alloc o).cell? ⟨g6, 0, none⟩ = some (.int .i64 k) := fun o => pw_cell_below (below_alloc (Below.refl _ w5) o) y0
    go_region_with (go_at_call 31; refine (table_any _).mono ?_; rintro e w2 ⟨rfl, rfl⟩)
    all_goals go_wp2_with (fail)
    all_goals go_meet
    all_goals exact ⟨rfl, ⟨blk_below BK6.out (below_drew (below_alloc (Below.refl _ _) _))⟩, ⟨blk_below BK4.out (below_drew (below_alloc (Below.refl _ _) _))⟩, ⟨below_then HB.out HB.out.size (below_drew (below_alloc (Below.refl _ _) _))⟩⟩
  case rest =>
    obtain ⟨rfl, BK6, BK4, HB⟩ := hcut
    go_wp2_with (fail)
    have BKP := Aside0.mk (blk_new wc (.cells #[.int .i64 1, .pointer (some ⟨g6, 1, none⟩), .int .i64 2, .pointer (some ⟨g6, 2, none⟩)] 105))
    have GP := Aside0.mk (show g6 ≠ wc.heap.size from Nat.ne_of_lt (blk_lt BK6.out))
    have n0_ := Aside0.mk (blk_below BK6.out (below_alloc (Below.refl _ wc) (.cells #[.int .i64 1, .pointer (some ⟨g6, 1, none⟩), .int .i64 2, .pointer (some ⟨g6, 2, none⟩)] 105)))
    have n1_ := Aside0.mk (blk_below BK4.out (below_alloc (Below.refl _ wc) (.cells #[.int .i64 1, .pointer (some ⟨g6, 1, none⟩), .int .i64 2, .pointer (some ⟨g6, 2, none⟩)] 105)))
    have n2_ := Aside0.mk (below_then HB.out HB.out.size (below_alloc (Below.refl _ wc) (.cells #[.int .i64 1, .pointer (some ⟨g6, 1, none⟩), .int .i64 2, .pointer (some ⟨g6, 2, none⟩)] 105)))
    generalize wc.heap.size = gp at BKP GP ⊢
    generalize wc.alloc (.cells #[.int .i64 1, .pointer (some ⟨g6, 1, none⟩), .int .i64 2, .pointer (some ⟨g6, 2, none⟩)] 105) = w8 at BKP n0_ n1_ n2_ ⊢
    clear BK6 BK4 HB
    have BK6 := n0_
    have BK4 := n1_
    have HB := n2_
    clear n0_ n1_ n2_
    refine wp_loop_rounds 3 ?_
    rw [rounds_succ]
    have p0 : w8.cell? ⟨gp, 0, none⟩ = some (.int .i64 1) := (blk_cell BKP.out 0).trans rfl
    have p1 : w8.cell? ⟨gp, 1, none⟩ = some (.pointer (some ⟨g6, 1, none⟩)) := (blk_cell BKP.out 1).trans rfl
    have y0 : ∀ o : Obj, (w8.alloc o).cell? ⟨g6, 0, none⟩ = some (.int .i64 k) := fun o => pw_cell_below (below_alloc (Below.refl _ w8) o) ((blk_cell BK6.out 0).trans rfl)
    have y1 : ∀ o : Obj, (w8.alloc o).cell? ⟨g6, 1, none⟩ = some (.int .i64 0) := fun o => pw_cell_below (below_alloc (Below.refl _ w8) o) ((blk_cell BK6.out 1).trans rfl)
    have y2 : ∀ o : Obj, (w8.alloc o).cell? ⟨g6, 2, none⟩ = some (.int .i64 0) := fun o => pw_cell_below (below_alloc (Below.refl _ w8) o) ((blk_cell BK6.out 2).trans rfl)
    have y3 : ∀ o : Obj, (w8.alloc o).cell? ⟨g6, 3, none⟩ = some (.slice none 0 0) := fun o => pw_cell_below (below_alloc (Below.refl _ w8) o) ((blk_cell BK6.out 3).trans rfl)
    go_wp2_with (first | (refine wpList_store_row rfl 28 (.tmp 4) (.tmp 40) rfl g4 #[.int .i64 k, .int .i64 0, .int .i64 0, .slice none 0 0] rfl rfl 28 _ (blk_below BK4.out (below_alloc (Below.refl _ w8) (.cells #[.int .i64 1, .pointer (some ⟨g6, 1, none⟩)] 105))) (by kernel_rfl) rfl (by kernel_rfl) ?_; have n9_ : Aside0 (((w8.alloc (.cells #[.int .i64 1, .pointer (some ⟨g6, 1, none⟩)] 105)).setRow g4 #[.int .i64 k, .int .i64 0, .int .i64 0, .slice none 0 0]).heap[g4]? = some (.cells #[.int .i64 k, .int .i64 0, .int .i64 0, .slice none 0 0] 28 (0, 0))) := ⟨setRow_heap _ _ _ _ _ _ (blk_below BK4.out (below_alloc (Below.refl _ w8) (.cells #[.int .i64 1, .pointer (some ⟨g6, 1, none⟩)] 105)))⟩; have n8_ := Aside0.mk (below_setRow (below_then HB.out HB.out.size (below_alloc (Below.refl _ w8) (.cells #[.int .i64 1, .pointer (some ⟨g6, 1, none⟩)] 105))) GE4.out #[.int .i64 k, .int .i64 0, .int .i64 0, .slice none 0 0]); generalize (w8.alloc (.cells #[.int .i64 1, .pointer (some ⟨g6, 1, none⟩)] 105)).setRow g4 #[.int .i64 k, .int .i64 0, .int .i64 0, .slice none 0 0] = wz at n9_ n8_ ⊢))
    refine bodyPost_ret (results_ct rfl _ _ g4 28 #[.int .i64 k, .int .i64 0, .int .i64 0, .slice none 0 0] (0, 0) _ rfl n9_.out Tryd.underlying28 rfl (by kernel_rfl)) rfl ?_
    exact ⟨⟨_, _, _, rfl⟩, n8_.out⟩
set_option maxRecDepth 100000 in
set_option maxHeartbeats 4000000 in
theorem one_h5n (t : ByteArray) (k : Nat) (A : Option Addr) (c : Nat) (w : World) (hr : Kd.C (Kd.int .i64) w A 0 ([])) (hc : 0 ≤ c) (h : opOf t = k) (h1 : 1 ≤ k) (h2 : k ≤ 27) (hh : hasAt k = 5) :
    Calls Tryd.prog 62 #[.string t, .slice A 0 c] w fun e w' => (∃ a b c : Int, e = .returned (.tuple #[.agg #[.int .i64 a, .int .i64 b, .int .i64 c, .slice none 0 0], .bool false])) ∧ Below w.heap.size w w' := by
  have hu28 := Tryd.underlying28
  have hix := fun W => index_at W k (by omega)
  rw [hh] at hix
  have hfd := field_has (nameAt k) 5
  have hk0 : ((k : Int) == 0) = false := by simp; omega
  have HO := Aside0.mk h
  have HR := Aside0.mk hr
  clear h hh hr
  go_enter Tryd.func62, Tryd.ntmps62
  go_wp2_with (first
    | ((with_reducible refine gate_dst (N := 4) rfl ?_); refine box_event ?hg (N := 4) ?hd (cs := #[.int .i64 0, .int .i64 0, .int .i64 0, .slice none 0 0]) (t := 28) ?hr ?_; (case hd => rfl); (case hg => rfl); (case hr => first | (go_simp; done) | (go_simp; rfl)); intro g4 hg w2 hbox hb; have BK4 := Aside0.mk hbox; have HB := Aside0.mk hb; have GE4 := Aside0.mk (Nat.le_of_eq hg.symm); clear hg hbox hb)
    | (go_at_call 11; refine (op_any t _).mono ?_; rw [HO.out]; rintro e w3 ⟨rfl, hb⟩; have n1_ := Aside0.mk (blk_below BK4.out hb); have n3_ := Aside0.mk (below_then HB.out HB.out.size hb); clear BK4 HB hb; have BK4 := n1_; have HB := n3_; clear n1_ n3_)
    | ((with_reducible refine gate_dst (N := 6) rfl ?_); refine box_event ?hg (N := 6) ?hd (cs := #[.int .i64 0, .int .i64 0, .int .i64 0, .slice none 0 0]) (t := 28) ?hr ?_; (case hd => rfl); (case hg => rfl); (case hr => first | (go_simp; done) | (go_simp; rfl)); intro g6 hg w4 hbox hb; have BK6 := Aside0.mk hbox; have GE6 := Aside0.mk (show w.heap.size ≤ g6 by rw [hg]; exact HB.out.size); have NE := Aside0.mk (show g4 ≠ g6 by rw [hg]; exact Nat.ne_of_lt (blk_lt BK4.out)); have n1_ := Aside0.mk (blk_below BK4.out hb); have n3_ := Aside0.mk (below_then HB.out HB.out.size hb); clear BK4 HB; have BK4 := n1_; have HB := n3_; clear n1_ n3_ hg hbox hb)
    | (refine wpList_store_row rfl 28 (.tmp 6) (.tmp 12) rfl g6 #[.int .i64 k, .int .i64 0, .int .i64 0, .slice none 0 0] rfl rfl 28 _ BK6.out (by kernel_rfl) rfl (by kernel_rfl) ?_; have n0_ : Aside0 ((w4.setRow g6 #[.int .i64 k, .int .i64 0, .int .i64 0, .slice none 0 0]).heap[g6]? = some (.cells #[.int .i64 k, .int .i64 0, .int .i64 0, .slice none 0 0] 28 (0, 0))) := ⟨setRow_heap _ _ _ _ _ _ BK6.out⟩; have n2_ : Aside0 ((w4.setRow g6 #[.int .i64 k, .int .i64 0, .int .i64 0, .slice none 0 0]).heap[g4]? = some (.cells #[.int .i64 0, .int .i64 0, .int .i64 0, .slice none 0 0] 28 (0, 0))) := ⟨(setRow_other _ _ _ _ NE.out).trans BK4.out⟩; have n1_ := Aside0.mk (below_setRow HB.out GE6.out #[.int .i64 k, .int .i64 0, .int .i64 0, .slice none 0 0]); generalize w4.setRow g6 #[.int .i64 k, .int .i64 0, .int .i64 0, .slice none 0 0] = w5 at n0_ n1_ n2_ ⊢; clear BK4 BK6 HB; have BK6 := n0_; have BK4 := n2_; have HB := n1_; clear n0_ n1_ n2_; have y0 : w5.cell? ⟨g6, 0, none⟩ = some (.int .i64 k) := (blk_cell BK6.out 0).trans rfl; have y1 : w5.cell? ⟨g6, 1, none⟩ = some (.int .i64 0) := (blk_cell BK6.out 1).trans rfl; have y2 : w5.cell? ⟨g6, 2, none⟩ = some (.int .i64 0) := (blk_cell BK6.out 2).trans rfl; have y3 : w5.cell? ⟨g6, 3, none⟩ = some (.slice none 0 0) := (blk_cell BK6.out 3).trans rfl))
  clear y1 y2 y3
  go_cut [7] (fun v7 wc => v7 = .int .i64 5 ∧ Aside0 (wc.heap[g6]? = some (.cells #[.int .i64 k, .int .i64 0, .int .i64 0, .slice none 0 0] 28 (0, 0))) ∧ Aside0 (wc.heap[g4]? = some (.cells #[.int .i64 0, .int .i64 0, .int .i64 0, .slice none 0 0] 28 (0, 0))) ∧ Aside0 (Below w.heap.size w wc))
  case first =>
    have y1 : ∀ o : Obj, (w5.alloc o).cell? ⟨g6, 0, none⟩ = some (.int .i64 k) := fun o => pw_cell_below (below_alloc (Below.refl _ w5) o) y0
    go_region_with (go_at_call 31; refine (table_any _).mono ?_; rintro e w2 ⟨rfl, rfl⟩)
    all_goals go_wp2_with (fail)
    all_goals go_meet
    all_goals exact ⟨rfl, ⟨blk_below BK6.out (below_drew (below_alloc (Below.refl _ _) _))⟩, ⟨blk_below BK4.out (below_drew (below_alloc (Below.refl _ _) _))⟩, ⟨below_then HB.out HB.out.size (below_drew (below_alloc (Below.refl _ _) _))⟩⟩
  case rest =>
    obtain ⟨rfl, BK6, BK4, HB⟩ := hcut
    go_wp2_with (fail)
    have BKP := Aside0.mk (blk_new wc (.cells #[.int .i64 1, .pointer (some ⟨g6, 1, none⟩), .int .i64 2, .pointer (some ⟨g6, 2, none⟩)] 105))
    have GP := Aside0.mk (show g6 ≠ wc.heap.size from Nat.ne_of_lt (blk_lt BK6.out))
    have n0_ := Aside0.mk (blk_below BK6.out (below_alloc (Below.refl _ wc) (.cells #[.int .i64 1, .pointer (some ⟨g6, 1, none⟩), .int .i64 2, .pointer (some ⟨g6, 2, none⟩)] 105)))
    have n1_ := Aside0.mk (blk_below BK4.out (below_alloc (Below.refl _ wc) (.cells #[.int .i64 1, .pointer (some ⟨g6, 1, none⟩), .int .i64 2, .pointer (some ⟨g6, 2, none⟩)] 105)))
    have n2_ := Aside0.mk (below_then HB.out HB.out.size (below_alloc (Below.refl _ wc) (.cells #[.int .i64 1, .pointer (some ⟨g6, 1, none⟩), .int .i64 2, .pointer (some ⟨g6, 2, none⟩)] 105)))
    generalize wc.heap.size = gp at BKP GP ⊢
    generalize wc.alloc (.cells #[.int .i64 1, .pointer (some ⟨g6, 1, none⟩), .int .i64 2, .pointer (some ⟨g6, 2, none⟩)] 105) = w8 at BKP n0_ n1_ n2_ ⊢
    clear BK6 BK4 HB
    have BK6 := n0_
    have BK4 := n1_
    have HB := n2_
    clear n0_ n1_ n2_
    refine wp_loop_rounds 3 ?_
    rw [rounds_succ]
    have p0 : w8.cell? ⟨gp, 0, none⟩ = some (.int .i64 1) := (blk_cell BKP.out 0).trans rfl
    have p1 : w8.cell? ⟨gp, 1, none⟩ = some (.pointer (some ⟨g6, 1, none⟩)) := (blk_cell BKP.out 1).trans rfl
    have y0 : ∀ o : Obj, (w8.alloc o).cell? ⟨g6, 0, none⟩ = some (.int .i64 k) := fun o => pw_cell_below (below_alloc (Below.refl _ w8) o) ((blk_cell BK6.out 0).trans rfl)
    have y1 : ∀ o : Obj, (w8.alloc o).cell? ⟨g6, 1, none⟩ = some (.int .i64 0) := fun o => pw_cell_below (below_alloc (Below.refl _ w8) o) ((blk_cell BK6.out 1).trans rfl)
    have y2 : ∀ o : Obj, (w8.alloc o).cell? ⟨g6, 2, none⟩ = some (.int .i64 0) := fun o => pw_cell_below (below_alloc (Below.refl _ w8) o) ((blk_cell BK6.out 2).trans rfl)
    have y3 : ∀ o : Obj, (w8.alloc o).cell? ⟨g6, 3, none⟩ = some (.slice none 0 0) := fun o => pw_cell_below (below_alloc (Below.refl _ w8) o) ((blk_cell BK6.out 3).trans rfl)
    go_wp2_with (first | (refine wpList_store_row rfl 28 (.tmp 4) (.tmp 40) rfl g4 #[.int .i64 k, .int .i64 0, .int .i64 0, .slice none 0 0] rfl rfl 28 _ (blk_below BK4.out (below_alloc (Below.refl _ w8) (.cells #[.int .i64 1, .pointer (some ⟨g6, 1, none⟩)] 105))) (by kernel_rfl) rfl (by kernel_rfl) ?_; have n9_ : Aside0 (((w8.alloc (.cells #[.int .i64 1, .pointer (some ⟨g6, 1, none⟩)] 105)).setRow g4 #[.int .i64 k, .int .i64 0, .int .i64 0, .slice none 0 0]).heap[g4]? = some (.cells #[.int .i64 k, .int .i64 0, .int .i64 0, .slice none 0 0] 28 (0, 0))) := ⟨setRow_heap _ _ _ _ _ _ (blk_below BK4.out (below_alloc (Below.refl _ w8) (.cells #[.int .i64 1, .pointer (some ⟨g6, 1, none⟩)] 105)))⟩; have n8_ := Aside0.mk (below_setRow (below_then HB.out HB.out.size (below_alloc (Below.refl _ w8) (.cells #[.int .i64 1, .pointer (some ⟨g6, 1, none⟩)] 105))) GE4.out #[.int .i64 k, .int .i64 0, .int .i64 0, .slice none 0 0]); generalize (w8.alloc (.cells #[.int .i64 1, .pointer (some ⟨g6, 1, none⟩)] 105)).setRow g4 #[.int .i64 k, .int .i64 0, .int .i64 0, .slice none 0 0] = wz at n9_ n8_ ⊢))
    refine bodyPost_ret (results_ct rfl _ _ g4 28 #[.int .i64 k, .int .i64 0, .int .i64 0, .slice none 0 0] (0, 0) _ rfl n9_.out Tryd.underlying28 rfl (by kernel_rfl)) rfl ?_
    exact ⟨⟨_, _, _, rfl⟩, n8_.out⟩
set_option maxRecDepth 100000 in
set_option maxHeartbeats 4000000 in
theorem one_h3n (t : ByteArray) (k : Nat) (A : Option Addr) (c : Nat) (w : World) (hr : Kd.C (Kd.int .i64) w A 0 ([])) (hc : 0 ≤ c) (h : opOf t = k) (h1 : 1 ≤ k) (h2 : k ≤ 27) (hh : hasAt k = 3) :
    Calls Tryd.prog 62 #[.string t, .slice A 0 c] w fun e w' => (∃ a b c : Int, e = .returned (.tuple #[.agg #[.int .i64 a, .int .i64 b, .int .i64 c, .slice none 0 0], .bool false])) ∧ Below w.heap.size w w' := by
  have hu28 := Tryd.underlying28
  have hix := fun W => index_at W k (by omega)
  rw [hh] at hix
  have hfd := field_has (nameAt k) 3
  have hk0 : ((k : Int) == 0) = false := by simp; omega
  have HO := Aside0.mk h
  have HR := Aside0.mk hr
  clear h hh hr
  go_enter Tryd.func62, Tryd.ntmps62
  go_wp2_with (first
    | ((with_reducible refine gate_dst (N := 4) rfl ?_); refine box_event ?hg (N := 4) ?hd (cs := #[.int .i64 0, .int .i64 0, .int .i64 0, .slice none 0 0]) (t := 28) ?hr ?_; (case hd => rfl); (case hg => rfl); (case hr => first | (go_simp; done) | (go_simp; rfl)); intro g4 hg w2 hbox hb; have BK4 := Aside0.mk hbox; have HB := Aside0.mk hb; have GE4 := Aside0.mk (Nat.le_of_eq hg.symm); clear hg hbox hb)
    | (go_at_call 11; refine (op_any t _).mono ?_; rw [HO.out]; rintro e w3 ⟨rfl, hb⟩; have n1_ := Aside0.mk (blk_below BK4.out hb); have n3_ := Aside0.mk (below_then HB.out HB.out.size hb); clear BK4 HB hb; have BK4 := n1_; have HB := n3_; clear n1_ n3_)
    | ((with_reducible refine gate_dst (N := 6) rfl ?_); refine box_event ?hg (N := 6) ?hd (cs := #[.int .i64 0, .int .i64 0, .int .i64 0, .slice none 0 0]) (t := 28) ?hr ?_; (case hd => rfl); (case hg => rfl); (case hr => first | (go_simp; done) | (go_simp; rfl)); intro g6 hg w4 hbox hb; have BK6 := Aside0.mk hbox; have GE6 := Aside0.mk (show w.heap.size ≤ g6 by rw [hg]; exact HB.out.size); have NE := Aside0.mk (show g4 ≠ g6 by rw [hg]; exact Nat.ne_of_lt (blk_lt BK4.out)); have n1_ := Aside0.mk (blk_below BK4.out hb); have n3_ := Aside0.mk (below_then HB.out HB.out.size hb); clear BK4 HB; have BK4 := n1_; have HB := n3_; clear n1_ n3_ hg hbox hb)
    | (refine wpList_store_row rfl 28 (.tmp 6) (.tmp 12) rfl g6 #[.int .i64 k, .int .i64 0, .int .i64 0, .slice none 0 0] rfl rfl 28 _ BK6.out (by kernel_rfl) rfl (by kernel_rfl) ?_; have n0_ : Aside0 ((w4.setRow g6 #[.int .i64 k, .int .i64 0, .int .i64 0, .slice none 0 0]).heap[g6]? = some (.cells #[.int .i64 k, .int .i64 0, .int .i64 0, .slice none 0 0] 28 (0, 0))) := ⟨setRow_heap _ _ _ _ _ _ BK6.out⟩; have n2_ : Aside0 ((w4.setRow g6 #[.int .i64 k, .int .i64 0, .int .i64 0, .slice none 0 0]).heap[g4]? = some (.cells #[.int .i64 0, .int .i64 0, .int .i64 0, .slice none 0 0] 28 (0, 0))) := ⟨(setRow_other _ _ _ _ NE.out).trans BK4.out⟩; have n1_ := Aside0.mk (below_setRow HB.out GE6.out #[.int .i64 k, .int .i64 0, .int .i64 0, .slice none 0 0]); generalize w4.setRow g6 #[.int .i64 k, .int .i64 0, .int .i64 0, .slice none 0 0] = w5 at n0_ n1_ n2_ ⊢; clear BK4 BK6 HB; have BK6 := n0_; have BK4 := n2_; have HB := n1_; clear n0_ n1_ n2_; have y0 : w5.cell? ⟨g6, 0, none⟩ = some (.int .i64 k) := (blk_cell BK6.out 0).trans rfl; have y1 : w5.cell? ⟨g6, 1, none⟩ = some (.int .i64 0) := (blk_cell BK6.out 1).trans rfl; have y2 : w5.cell? ⟨g6, 2, none⟩ = some (.int .i64 0) := (blk_cell BK6.out 2).trans rfl; have y3 : w5.cell? ⟨g6, 3, none⟩ = some (.slice none 0 0) := (blk_cell BK6.out 3).trans rfl))
  clear y1 y2 y3
  go_cut [7] (fun v7 wc => v7 = .int .i64 3 ∧ Aside0 (wc.heap[g6]? = some (.cells #[.int .i64 k, .int .i64 0, .int .i64 0, .slice none 0 0] 28 (0, 0))) ∧ Aside0 (wc.heap[g4]? = some (.cells #[.int .i64 0, .int .i64 0, .int .i64 0, .slice none 0 0] 28 (0, 0))) ∧ Aside0 (Below w.heap.size w wc))
  case first =>
    have y1 : ∀ o : Obj, (w5.alloc o).cell? ⟨g6, 0, none⟩ = some (.int .i64 k) := fun o => pw_cell_below (below_alloc (Below.refl _ w5) o) y0
    go_region_with (go_at_call 31; refine (table_any _).mono ?_; rintro e w2 ⟨rfl, rfl⟩)
    all_goals go_wp2_with (fail)
    all_goals go_meet
    all_goals exact ⟨rfl, ⟨blk_below BK6.out (below_drew (below_alloc (Below.refl _ _) _))⟩, ⟨blk_below BK4.out (below_drew (below_alloc (Below.refl _ _) _))⟩, ⟨below_then HB.out HB.out.size (below_drew (below_alloc (Below.refl _ _) _))⟩⟩
  case rest =>
    obtain ⟨rfl, BK6, BK4, HB⟩ := hcut
    go_wp2_with (fail)
    have BKP := Aside0.mk (blk_new wc (.cells #[.int .i64 1, .pointer (some ⟨g6, 1, none⟩), .int .i64 2, .pointer (some ⟨g6, 2, none⟩)] 105))
    have GP := Aside0.mk (show g6 ≠ wc.heap.size from Nat.ne_of_lt (blk_lt BK6.out))
    have n0_ := Aside0.mk (blk_below BK6.out (below_alloc (Below.refl _ wc) (.cells #[.int .i64 1, .pointer (some ⟨g6, 1, none⟩), .int .i64 2, .pointer (some ⟨g6, 2, none⟩)] 105)))
    have n1_ := Aside0.mk (blk_below BK4.out (below_alloc (Below.refl _ wc) (.cells #[.int .i64 1, .pointer (some ⟨g6, 1, none⟩), .int .i64 2, .pointer (some ⟨g6, 2, none⟩)] 105)))
    have n2_ := Aside0.mk (below_then HB.out HB.out.size (below_alloc (Below.refl _ wc) (.cells #[.int .i64 1, .pointer (some ⟨g6, 1, none⟩), .int .i64 2, .pointer (some ⟨g6, 2, none⟩)] 105)))
    generalize wc.heap.size = gp at BKP GP ⊢
    generalize wc.alloc (.cells #[.int .i64 1, .pointer (some ⟨g6, 1, none⟩), .int .i64 2, .pointer (some ⟨g6, 2, none⟩)] 105) = w8 at BKP n0_ n1_ n2_ ⊢
    clear BK6 BK4 HB
    have BK6 := n0_
    have BK4 := n1_
    have HB := n2_
    clear n0_ n1_ n2_
    refine wp_loop_rounds 3 ?_
    rw [rounds_succ]
    have p0 : w8.cell? ⟨gp, 0, none⟩ = some (.int .i64 1) := (blk_cell BKP.out 0).trans rfl
    have p1 : w8.cell? ⟨gp, 1, none⟩ = some (.pointer (some ⟨g6, 1, none⟩)) := (blk_cell BKP.out 1).trans rfl
    have y0 : ∀ o : Obj, (w8.alloc o).cell? ⟨g6, 0, none⟩ = some (.int .i64 k) := fun o => pw_cell_below (below_alloc (Below.refl _ w8) o) ((blk_cell BK6.out 0).trans rfl)
    have y1 : ∀ o : Obj, (w8.alloc o).cell? ⟨g6, 1, none⟩ = some (.int .i64 0) := fun o => pw_cell_below (below_alloc (Below.refl _ w8) o) ((blk_cell BK6.out 1).trans rfl)
    have y2 : ∀ o : Obj, (w8.alloc o).cell? ⟨g6, 2, none⟩ = some (.int .i64 0) := fun o => pw_cell_below (below_alloc (Below.refl _ w8) o) ((blk_cell BK6.out 2).trans rfl)
    have y3 : ∀ o : Obj, (w8.alloc o).cell? ⟨g6, 3, none⟩ = some (.slice none 0 0) := fun o => pw_cell_below (below_alloc (Below.refl _ w8) o) ((blk_cell BK6.out 3).trans rfl)
    go_wp2_with (first | (refine wpList_store_row rfl 28 (.tmp 4) (.tmp 40) rfl g4 #[.int .i64 k, .int .i64 0, .int .i64 0, .slice none 0 0] rfl rfl 28 _ (blk_below BK4.out (below_alloc (Below.refl _ w8) (.cells #[.int .i64 1, .pointer (some ⟨g6, 1, none⟩)] 105))) (by kernel_rfl) rfl (by kernel_rfl) ?_; have n9_ : Aside0 (((w8.alloc (.cells #[.int .i64 1, .pointer (some ⟨g6, 1, none⟩)] 105)).setRow g4 #[.int .i64 k, .int .i64 0, .int .i64 0, .slice none 0 0]).heap[g4]? = some (.cells #[.int .i64 k, .int .i64 0, .int .i64 0, .slice none 0 0] 28 (0, 0))) := ⟨setRow_heap _ _ _ _ _ _ (blk_below BK4.out (below_alloc (Below.refl _ w8) (.cells #[.int .i64 1, .pointer (some ⟨g6, 1, none⟩)] 105)))⟩; have n8_ := Aside0.mk (below_setRow (below_then HB.out HB.out.size (below_alloc (Below.refl _ w8) (.cells #[.int .i64 1, .pointer (some ⟨g6, 1, none⟩)] 105))) GE4.out #[.int .i64 k, .int .i64 0, .int .i64 0, .slice none 0 0]); generalize (w8.alloc (.cells #[.int .i64 1, .pointer (some ⟨g6, 1, none⟩)] 105)).setRow g4 #[.int .i64 k, .int .i64 0, .int .i64 0, .slice none 0 0] = wz at n9_ n8_ ⊢))
    refine bodyPost_ret (results_ct rfl _ _ g4 28 #[.int .i64 k, .int .i64 0, .int .i64 0, .slice none 0 0] (0, 0) _ rfl n9_.out Tryd.underlying28 rfl (by kernel_rfl)) rfl ?_
    exact ⟨⟨_, _, _, rfl⟩, n8_.out⟩
set_option maxRecDepth 100000 in
set_option maxHeartbeats 4000000 in
theorem one_h3o (t : ByteArray) (k : Nat) (A : Option Addr) (c : Nat) (x : Int) (w : World) (hr : Kd.C (Kd.int .i64) w A 1 (x :: [])) (hc : 1 ≤ c) (h : opOf t = k) (h1 : 1 ≤ k) (h2 : k ≤ 27) (hh : hasAt k = 3) :
    Calls Tryd.prog 62 #[.string t, .slice A 1 c] w fun e w' => (∃ a b c : Int, e = .returned (.tuple #[.agg #[.int .i64 a, .int .i64 b, .int .i64 c, .slice none 0 0], .bool false])) ∧ Below w.heap.size w w' := by
  have hu28 := Tryd.underlying28
  have hix := fun W => index_at W k (by omega)
  rw [hh] at hix
  have hfd := field_has (nameAt k) 3
  have hk0 : ((k : Int) == 0) = false := by simp; omega
  have HO := Aside0.mk h
  have HR := Aside0.mk hr
  obtain ⟨A1, c1, hA1, hAb1⟩ := slice_one A 0 c (by omega)
  replace hA1 : ∀ W : World, (Instr.slice 26 (.slice A 1 c) (some (.int .i64 1)) none none).run Tryd.prog W = .ok (.slice A1 0 c1) W := hA1
  have X0 := Aside0.mk (num_at0 hr x rfl)
  clear h hh hr
  go_enter Tryd.func62, Tryd.ntmps62
  go_wp2_with (first
    | ((with_reducible refine gate_dst (N := 4) rfl ?_); refine box_event ?hg (N := 4) ?hd (cs := #[.int .i64 0, .int .i64 0, .int .i64 0, .slice none 0 0]) (t := 28) ?hr ?_; (case hd => rfl); (case hg => rfl); (case hr => first | (go_simp; done) | (go_simp; rfl)); intro g4 hg w2 hbox hb; have BK4 := Aside0.mk hbox; have HB := Aside0.mk hb; have GE4 := Aside0.mk (Nat.le_of_eq hg.symm); clear hg hbox hb)
    | (go_at_call 11; refine (op_any t _).mono ?_; rw [HO.out]; rintro e w3 ⟨rfl, hb⟩; have n1_ := Aside0.mk (blk_below BK4.out hb); have n3_ := Aside0.mk (below_then HB.out HB.out.size hb); clear BK4 HB hb; have BK4 := n1_; have HB := n3_; clear n1_ n3_)
    | ((with_reducible refine gate_dst (N := 6) rfl ?_); refine box_event ?hg (N := 6) ?hd (cs := #[.int .i64 0, .int .i64 0, .int .i64 0, .slice none 0 0]) (t := 28) ?hr ?_; (case hd => rfl); (case hg => rfl); (case hr => first | (go_simp; done) | (go_simp; rfl)); intro g6 hg w4 hbox hb; have BK6 := Aside0.mk hbox; have GE6 := Aside0.mk (show w.heap.size ≤ g6 by rw [hg]; exact HB.out.size); have NE := Aside0.mk (show g4 ≠ g6 by rw [hg]; exact Nat.ne_of_lt (blk_lt BK4.out)); have n1_ := Aside0.mk (blk_below BK4.out hb); have n3_ := Aside0.mk (below_then HB.out HB.out.size hb); clear BK4 HB; have BK4 := n1_; have HB := n3_; clear n1_ n3_ hg hbox hb)
    | (refine wpList_store_row rfl 28 (.tmp 6) (.tmp 12) rfl g6 #[.int .i64 k, .int .i64 0, .int .i64 0, .slice none 0 0] rfl rfl 28 _ BK6.out (by kernel_rfl) rfl (by kernel_rfl) ?_; have n0_ : Aside0 ((w4.setRow g6 #[.int .i64 k, .int .i64 0, .int .i64 0, .slice none 0 0]).heap[g6]? = some (.cells #[.int .i64 k, .int .i64 0, .int .i64 0, .slice none 0 0] 28 (0, 0))) := ⟨setRow_heap _ _ _ _ _ _ BK6.out⟩; have n2_ : Aside0 ((w4.setRow g6 #[.int .i64 k, .int .i64 0, .int .i64 0, .slice none 0 0]).heap[g4]? = some (.cells #[.int .i64 0, .int .i64 0, .int .i64 0, .slice none 0 0] 28 (0, 0))) := ⟨(setRow_other _ _ _ _ NE.out).trans BK4.out⟩; have n1_ := Aside0.mk (below_setRow HB.out GE6.out #[.int .i64 k, .int .i64 0, .int .i64 0, .slice none 0 0]); generalize w4.setRow g6 #[.int .i64 k, .int .i64 0, .int .i64 0, .slice none 0 0] = w5 at n0_ n1_ n2_ ⊢; clear BK4 BK6 HB; have BK6 := n0_; have BK4 := n2_; have HB := n1_; clear n0_ n1_ n2_; have y0 : w5.cell? ⟨g6, 0, none⟩ = some (.int .i64 k) := (blk_cell BK6.out 0).trans rfl; have y1 : w5.cell? ⟨g6, 1, none⟩ = some (.int .i64 0) := (blk_cell BK6.out 1).trans rfl; have y2 : w5.cell? ⟨g6, 2, none⟩ = some (.int .i64 0) := (blk_cell BK6.out 2).trans rfl; have y3 : w5.cell? ⟨g6, 3, none⟩ = some (.slice none 0 0) := (blk_cell BK6.out 3).trans rfl))
  clear y1 y2 y3
  go_cut [7] (fun v7 wc => v7 = .int .i64 3 ∧ Aside0 (wc.heap[g6]? = some (.cells #[.int .i64 k, .int .i64 0, .int .i64 0, .slice none 0 0] 28 (0, 0))) ∧ Aside0 (wc.heap[g4]? = some (.cells #[.int .i64 0, .int .i64 0, .int .i64 0, .slice none 0 0] 28 (0, 0))) ∧ Aside0 (Below w.heap.size w wc))
  case first =>
    have y1 : ∀ o : Obj, (w5.alloc o).cell? ⟨g6, 0, none⟩ = some (.int .i64 k) := fun o => pw_cell_below (below_alloc (Below.refl _ w5) o) y0
    go_region_with (go_at_call 31; refine (table_any _).mono ?_; rintro e w2 ⟨rfl, rfl⟩)
    all_goals go_wp2_with (fail)
    all_goals go_meet
    all_goals exact ⟨rfl, ⟨blk_below BK6.out (below_drew (below_alloc (Below.refl _ _) _))⟩, ⟨blk_below BK4.out (below_drew (below_alloc (Below.refl _ _) _))⟩, ⟨below_then HB.out HB.out.size (below_drew (below_alloc (Below.refl _ _) _))⟩⟩
  case rest =>
    obtain ⟨rfl, BK6, BK4, HB⟩ := hcut
    go_wp2_with (fail)
    have BKP := Aside0.mk (blk_new wc (.cells #[.int .i64 1, .pointer (some ⟨g6, 1, none⟩), .int .i64 2, .pointer (some ⟨g6, 2, none⟩)] 105))
    have GP := Aside0.mk (show g6 ≠ wc.heap.size from Nat.ne_of_lt (blk_lt BK6.out))
    have n0_ := Aside0.mk (blk_below BK6.out (below_alloc (Below.refl _ wc) (.cells #[.int .i64 1, .pointer (some ⟨g6, 1, none⟩), .int .i64 2, .pointer (some ⟨g6, 2, none⟩)] 105)))
    have n1_ := Aside0.mk (blk_below BK4.out (below_alloc (Below.refl _ wc) (.cells #[.int .i64 1, .pointer (some ⟨g6, 1, none⟩), .int .i64 2, .pointer (some ⟨g6, 2, none⟩)] 105)))
    have n2_ := Aside0.mk (below_then HB.out HB.out.size (below_alloc (Below.refl _ wc) (.cells #[.int .i64 1, .pointer (some ⟨g6, 1, none⟩), .int .i64 2, .pointer (some ⟨g6, 2, none⟩)] 105)))
    generalize wc.heap.size = gp at BKP GP ⊢
    generalize wc.alloc (.cells #[.int .i64 1, .pointer (some ⟨g6, 1, none⟩), .int .i64 2, .pointer (some ⟨g6, 2, none⟩)] 105) = w8 at BKP n0_ n1_ n2_ ⊢
    clear BK6 BK4 HB
    have BK6 := n0_
    have BK4 := n1_
    have HB := n2_
    clear n0_ n1_ n2_
    refine wp_loop_rounds 3 ?_
    rw [rounds_succ]
    have p0 : w8.cell? ⟨gp, 0, none⟩ = some (.int .i64 1) := (blk_cell BKP.out 0).trans rfl
    have p1 : w8.cell? ⟨gp, 1, none⟩ = some (.pointer (some ⟨g6, 1, none⟩)) := (blk_cell BKP.out 1).trans rfl
    go_wp2_with (fail)
    have n0_ := Aside0.mk (blk_below BK6.out (below_alloc (Below.refl _ w8) (.cells #[.int .i64 1, .pointer (some ⟨g6, 1, none⟩)] 105)))
    have n1_ := Aside0.mk (blk_below BK4.out (below_alloc (Below.refl _ w8) (.cells #[.int .i64 1, .pointer (some ⟨g6, 1, none⟩)] 105)))
    have n3_ := Aside0.mk (blk_below BKP.out (below_alloc (Below.refl _ w8) (.cells #[.int .i64 1, .pointer (some ⟨g6, 1, none⟩)] 105)))
    have n2_ := Aside0.mk (below_then HB.out HB.out.size (below_alloc (Below.refl _ w8) (.cells #[.int .i64 1, .pointer (some ⟨g6, 1, none⟩)] 105)))
    have n4_ := Aside0.mk (blk_new w8 (.cells #[.int .i64 1, .pointer (some ⟨g6, 1, none⟩)] 105))
    generalize w8.alloc (.cells #[.int .i64 1, .pointer (some ⟨g6, 1, none⟩)] 105) = w9 at n0_ n1_ n2_ n3_ n4_ ⊢
    generalize w8.heap.size = g9 at n4_ ⊢
    clear BK6 BK4 HB BKP p0 p1
    have BK6 := n0_
    have BK4 := n1_
    have HB := n2_
    have BKP := n3_
    clear n0_ n1_ n2_ n3_
    have q1 : w9.cell? ⟨g9, 1, none⟩ = some (.pointer (some ⟨g6, 1, none⟩)) := (blk_cell n4_.out 1).trans rfl
    obtain ⟨ad0, hAD, q2⟩ := X0.out
    subst hAD
    replace q2 := pw_cell_below HB.out q2
    have q3 : w9.cell? ⟨g6, 1, none⟩ = some (.int .i64 0) := (blk_cell BK6.out 1).trans rfl
    have q4 : w9.frozen? ⟨g6, 1, none⟩ = false := blk_frozen BK6.out 1
    go_region
    have n0_ := Aside0.mk (blk_drew (blk_put (cs := #[.int .i64 k, .int .i64 0, .int .i64 0, .slice none 0 0]) (cs' := #[.int .i64 k, .int .i64 x, .int .i64 0, .slice none 0 0]) BK6.out 1 (.int .i64 x) rfl))
    have n1_ := Aside0.mk (blk_drew (blk_far BK4.out (p := ⟨g6, 1, none⟩) NE.out (.int .i64 x)))
    have n2_ := Aside0.mk (below_drew1 (below_set (g := g6) (j := 1) (v := .int .i64 x) HB.out GE6.out))
    have n3_ := Aside0.mk (blk_drew (blk_far BKP.out (p := ⟨g6, 1, none⟩) (Ne.symm GP.out) (.int .i64 x)))
    generalize (w9.setCell ⟨g6, 1, none⟩ (.int .i64 x)).drew = w10 at n0_ n1_ n2_ n3_ ⊢
    clear BK6 BK4 HB BKP q1 q2 q3 q4
    have BK6 := n0_
    have BK4 := n1_
    have HB := n2_
    have BKP := n3_
    clear n0_ n1_ n2_ n3_ n4_
    go_wp2_with (fail)
    rw [rounds_succ]
    have p2 : w10.cell? ⟨gp, 2, none⟩ = some (.int .i64 2) := (blk_cell BKP.out 2).trans rfl
    have p3 : w10.cell? ⟨gp, 3, none⟩ = some (.pointer (some ⟨g6, 2, none⟩)) := (blk_cell BKP.out 3).trans rfl
    have y0 : ∀ o : Obj, (w10.alloc o).cell? ⟨g6, 0, none⟩ = some (.int .i64 k) := fun o => pw_cell_below (below_alloc (Below.refl _ w10) o) ((blk_cell BK6.out 0).trans rfl)
    have y1 : ∀ o : Obj, (w10.alloc o).cell? ⟨g6, 1, none⟩ = some (.int .i64 x) := fun o => pw_cell_below (below_alloc (Below.refl _ w10) o) ((blk_cell BK6.out 1).trans rfl)
    have y2 : ∀ o : Obj, (w10.alloc o).cell? ⟨g6, 2, none⟩ = some (.int .i64 0) := fun o => pw_cell_below (below_alloc (Below.refl _ w10) o) ((blk_cell BK6.out 2).trans rfl)
    have y3 : ∀ o : Obj, (w10.alloc o).cell? ⟨g6, 3, none⟩ = some (.slice none 0 0) := fun o => pw_cell_below (below_alloc (Below.refl _ w10) o) ((blk_cell BK6.out 3).trans rfl)
    go_wp2_with (first | (refine wpList_store_row rfl 28 (.tmp 4) (.tmp 40) rfl g4 #[.int .i64 k, .int .i64 x, .int .i64 0, .slice none 0 0] rfl rfl 28 _ (blk_below BK4.out (below_alloc (Below.refl _ w10) (.cells #[.int .i64 2, .pointer (some ⟨g6, 2, none⟩)] 105))) (by kernel_rfl) rfl (by kernel_rfl) ?_; have n9_ : Aside0 (((w10.alloc (.cells #[.int .i64 2, .pointer (some ⟨g6, 2, none⟩)] 105)).setRow g4 #[.int .i64 k, .int .i64 x, .int .i64 0, .slice none 0 0]).heap[g4]? = some (.cells #[.int .i64 k, .int .i64 x, .int .i64 0, .slice none 0 0] 28 (0, 0))) := ⟨setRow_heap _ _ _ _ _ _ (blk_below BK4.out (below_alloc (Below.refl _ w10) (.cells #[.int .i64 2, .pointer (some ⟨g6, 2, none⟩)] 105)))⟩; have n8_ := Aside0.mk (below_setRow (below_then HB.out HB.out.size (below_alloc (Below.refl _ w10) (.cells #[.int .i64 2, .pointer (some ⟨g6, 2, none⟩)] 105))) GE4.out #[.int .i64 k, .int .i64 x, .int .i64 0, .slice none 0 0]); generalize (w10.alloc (.cells #[.int .i64 2, .pointer (some ⟨g6, 2, none⟩)] 105)).setRow g4 #[.int .i64 k, .int .i64 x, .int .i64 0, .slice none 0 0] = wz at n9_ n8_ ⊢))
    refine bodyPost_ret (results_ct rfl _ _ g4 28 #[.int .i64 k, .int .i64 x, .int .i64 0, .slice none 0 0] (0, 0) _ rfl n9_.out Tryd.underlying28 rfl (by kernel_rfl)) rfl ?_
    exact ⟨⟨_, _, _, rfl⟩, n8_.out⟩
end Go.Proofs.YtfkfgjmhcfagkaaDoor.Given
end
section
namespace Go.Proofs.YtfkfgjmhcfagkaaDoor.Given
open Go.RowKit Go.Proofs.YtfkfgjmhcfagkaaDoorW.PrintWords Go.Proofs.YtfkfgjmhcfagkaaDoorW.PrintLast Go.Proofs.YtfkfgjmhcfagkaaDoorW.PrintMore Go.Proofs.YtfkfgjmhcfagkaaDoor.Print
set_option linter.unusedVariables false
set_option linter.unusedSimpArgs false
theorem opFind_le (t : ByteArray) : ∀ (n k : Nat), opFind t n k ≤ k + n - 1
  | 0, k => by unfold opFind; omega
  | n + 1, k => by
    unfold opFind
    split
    · omega
    · have := opFind_le t n (k + 1)
      omega
theorem op_at (t : ByteArray) (h : opOf t ≠ 0) : ∃ k : Nat, opOf t = k ∧ 1 ≤ k ∧ k ≤ 27 := by
  refine ⟨opFind t 28 0, rfl, ?_, ?_⟩
  · unfold opOf at h
    omega
  · have := opFind_le t 28 0
    omega
def oneOf (t : ByteArray) (ns : List Int) : Option S28 :=
  if opOf t = 0 then none
  else match hA (opOf t).toNat, hB (opOf t).toNat, hL (opOf t).toNat, ns with
    | false, _, true, l => some ⟨opOf t, 0, 0, l⟩
    | false, _, false, [] => some ⟨opOf t, 0, 0, []⟩
    | false, _, false, _ :: _ => none
    | true, _, true, [] => none
    | true, _, true, x :: r => some ⟨opOf t, x, 0, r⟩
    | true, false, false, [x] => some ⟨opOf t, x, 0, []⟩
    | true, false, false, _ => none
    | true, true, false, [x, y] => some ⟨opOf t, x, y, []⟩
    | true, true, false, _ => none
variable {w : World} {base : Nat} {ok : Nat → Prop} {v : Value} {ns : List Int}
abbrev OneYes (w : World) (base : Nat) (ok : Nat → Prop) (i : S28) (e : Ending) (w' : World) : Prop := ∃ v', e = .returned (.tuple #[.agg #[.int .i64 i.f0, .int .i64 i.f1, .int .i64 i.f2, v'], .bool true]) ∧ (Kd.int .i64).Q 3 w' base ok v' i.f3 ∧ Below w.heap.size w w'
abbrev OneNo (w : World) (e : Ending) (w' : World) : Prop := (∃ a b c : Int, e = .returned (.tuple #[.agg #[.int .i64 a, .int .i64 b, .int .i64 c, .slice none 0 0], .bool false])) ∧ Below w.heap.size w w'
def OneSays (w : World) (base : Nat) (ok : Nat → Prop) (r : Option S28) (e : Ending) (w' : World) : Prop := match r with
  | some i => OneYes w base ok i e w'
  | none => OneNo w e w'
theorem one_any (t : ByteArray) (HQ : (Kd.int .i64).Q 3 w base ok v ns) : Calls Tryd.prog 62 #[.string t, v] w (OneSays w base ok (oneOf t ns)) := by
  obtain ⟨A, c, rfl, hc, hr⟩ := Kd.Q_reads HQ
  by_cases h0 : opOf t = 0
  · have hn : oneOf t ns = none := by unfold oneOf; rw [if_pos h0]
    rw [hn]
    refine (one_out t _ w h0).mono ?_
    rintro e w' ⟨a, b, c, h1, h2⟩
    exact ⟨⟨a, b, c, h1⟩, h2⟩
  obtain ⟨k, hk, k1, k2⟩ := op_at t h0
  have hkn : (opOf t).toNat = k := by rw [hk]; rfl
  obtain ⟨_, hH⟩ := rows_at k k1 k2
  unfold oneOf
  rw [if_neg h0, hkn]
  rcases hH with hH | hH | hH | hH | hH
  · rw [show hA k = false by unfold hA; rw [hH]; rfl, show hL k = false by unfold hL; rw [hH]; rfl]
    refine (one_h0 t k A c ns.length ns w hr hc hk k1 k2 hH).mono ?_
    rintro e w' ⟨rfl, hb⟩
    cases ns with
    | nil => exact ⟨_, by rw [hk]; rfl, Kd.Q_nil _ _ _ _ _, hb⟩
    | cons x r => exact ⟨⟨_, _, _, by rw [show ((((x :: r).length : Nat) : Int) == 0) = false by simp; omega]⟩, hb⟩
  · rw [show hA k = true by unfold hA; rw [hH]; rfl, show hB k = false by unfold hB; rw [hH]; rfl, show hL k = false by unfold hL; rw [hH]; rfl]
    match ns, hr, hc, HQ with
    | [], hr, hc, HQ =>
      refine (one_h1n t k A c w hr hc hk k1 k2 hH).mono ?_
      rintro e w' h
      exact h
    | x :: r, hr, hc, HQ =>
      refine (one_h1 t k A c x r w hr hc hk k1 k2 hH).mono ?_
      rintro e w' ⟨rfl, hb⟩
      cases r with
      | nil => exact ⟨_, by rw [hk]; rfl, Kd.Q_nil _ _ _ _ _, hb⟩
      | cons y r => exact ⟨⟨_, _, _, by rw [show ((((y :: r).length : Nat) : Int) == 0) = false by simp; omega]⟩, hb⟩
  · rw [show hA k = true by unfold hA; rw [hH]; rfl, show hB k = true by unfold hB; rw [hH]; rfl, show hL k = false by unfold hL; rw [hH]; rfl]
    match ns, hr, hc, HQ with
    | [], hr, hc, HQ =>
      refine (one_h3n t k A c w hr hc hk k1 k2 hH).mono ?_
      rintro e w' h
      exact h
    | [x], hr, hc, HQ =>
      refine (one_h3o t k A c x w hr hc hk k1 k2 hH).mono ?_
      rintro e w' h
      exact h
    | x :: y :: r, hr, hc, HQ =>
      refine (one_h3 t k A c x y r w hr hc hk k1 k2 hH).mono ?_
      rintro e w' ⟨rfl, hb⟩
      cases r with
      | nil => exact ⟨_, by rw [hk]; rfl, Kd.Q_nil _ _ _ _ _, hb⟩
      | cons z r => exact ⟨⟨_, _, _, by rw [show ((((z :: r).length : Nat) : Int) == 0) = false by simp; omega]⟩, hb⟩
  · rw [show hA k = false by unfold hA; rw [hH]; rfl, show hL k = true by unfold hL; rw [hH]; rfl]
    refine (one_h4 t k A c ns.length ns w hr hc hk k1 k2 hH).mono ?_
    rintro e w' ⟨rfl, hb⟩
    exact ⟨_, by rw [hk], Kd.Q_below HQ hb, hb⟩
  · rw [show hA k = true by unfold hA; rw [hH]; rfl, show hL k = true by unfold hL; rw [hH]; rfl]
    match ns, hr, hc, HQ with
    | [], hr, hc, HQ =>
      refine (one_h5n t k A c w hr hc hk k1 k2 hH).mono ?_
      rintro e w' h
      exact h
    | x :: r, hr, hc, HQ =>
      refine (one_h5 t k A c x r w hr hc hk k1 k2 hH).mono ?_
      rintro e w' ⟨rfl, hb⟩
      have h := Kd.Q_drop (Kd.Q_below HQ hb) (k := 1) (by simp)
      exact ⟨_, by rw [hk], by simpa [tailA, show (Kd.int .i64).sz = 1 from rfl] using h, hb⟩
def sliceQ {α : Type} (e : Nat) (d : Kd α) : Kd (List α) where
  sz := 1
  E := e :: d.E
  K := (Kd.slice e d).K
  M := fun w base ok xs cs => ∃ v, cs = [v] ∧ Kd.Q d e w base ok v xs
  K_len := (Kd.slice e d).K_len
  K_one := (Kd.slice e d).K_one
  K_below := (Kd.slice e d).K_below
  K_of_M := by
    rintro w base ok x cs ⟨v, rfl, h⟩
    obtain ⟨A, c, rfl, hl, hr⟩ := Kd.Q_reads h
    exact ⟨A, c, rfl, hl, hr⟩
  M_mono := by
    rintro w base ok ok' x cs hok ⟨v, rfl, h⟩
    exact ⟨v, rfl, Kd.Q_mono h hok⟩
  M_bound := by
    rintro w base ok x cs ⟨v, rfl, h⟩
    exact ⟨v, rfl, Kd.Q_bound h⟩
  M_move := by
    rintro w w1 base ok x cs hm ⟨v, rfl, h⟩
    exact ⟨v, rfl, Kd.Q_move h hm⟩
  M_lower := by
    rintro w base base' ok x cs hb ⟨v, rfl, h⟩
    exact ⟨v, rfl, Kd.Q_lower h hb⟩
def sliceS {α : Type} (e : Nat) (d : Kd α) : Kd (List α) where
  sz := 1
  E := e :: d.E
  K := (Kd.slice e d).K
  M := fun w base ok xs cs => ∃ v, cs = [v] ∧ Kd.S d e w base ok v xs
  K_len := (Kd.slice e d).K_len
  K_one := (Kd.slice e d).K_one
  K_below := (Kd.slice e d).K_below
  K_of_M := by
    rintro w base ok x cs ⟨v, rfl, h⟩
    obtain ⟨A, c, rfl, hl, hr⟩ := Kd.S_reads h
    exact ⟨A, c, rfl, hl, hr⟩
  M_mono := by
    rintro w base ok ok' x cs hok ⟨v, rfl, h⟩
    exact ⟨v, rfl, Kd.S_mono h hok⟩
  M_bound := by
    rintro w base ok x cs ⟨v, rfl, h⟩
    exact ⟨v, rfl, Kd.S_bound h⟩
  M_move := by
    rintro w w1 base ok x cs hm ⟨v, rfl, h⟩
    exact ⟨v, rfl, Kd.S_move h hm⟩
  M_lower := by
    rintro w base base' ok x cs hb ⟨v, rfl, h⟩
    exact ⟨v, rfl, Kd.S_lower h hb⟩
def k28q : Kd S28 := Kd.iso (Kd.pair (Kd.int .i64) (Kd.pair (Kd.int .i64) (Kd.pair (Kd.int .i64) (sliceQ 3 (Kd.int .i64))))) (fun x : S28 => (x.f0, x.f1, x.f2, x.f3))
def k54q : Kd S54 := Kd.iso (Kd.pair (Kd.int .i64) (Kd.pair (sliceQ 3 (Kd.int .i64)) Kd.bool)) (fun x : S54 => (x.f0, x.f1, x.f2))
def k57q : Kd S57 := Kd.iso (Kd.pair (Kd.int .i64) (Kd.pair (Kd.int .i64) (Kd.pair (Kd.int .i64) (Kd.pair Kd.bool (sliceS 28 k28q))))) (fun x : S57 => (x.f0, x.f1, x.f2, x.f3, x.f4))
theorem k57q_C {w : World} {A : Option Addr} {n : Nat} {ps : List S57} (h : k57q.C w A n ps) : k57.C w A n ps := h
theorem k54q_C {w : World} {A : Option Addr} {n : Nat} {ps : List S54} (h : k54q.C w A n ps) : k54.C w A n ps := h
theorem k28q_mkM (w : World) (base : Nat) (ok : Nat → Prop) (x : S28) {v3 : Value} (g3 : (Kd.int .i64).Q 3 w base ok v3 x.f3) : k28q.M w base ok x [.int .i64 x.f0, .int .i64 x.f1, .int .i64 x.f2, v3] :=
  ⟨[.int .i64 x.f0], [.int .i64 x.f1, .int .i64 x.f2, v3], rfl, rfl, ⟨[.int .i64 x.f1], [.int .i64 x.f2, v3], rfl, rfl, ⟨[.int .i64 x.f2], [v3], rfl, rfl, ⟨v3, rfl, g3⟩⟩⟩⟩
theorem k54q_mkM (w : World) (base : Nat) (ok : Nat → Prop) (x : S54) {v1 : Value} (g1 : (Kd.int .i64).Q 3 w base ok v1 x.f1) : k54q.M w base ok x [.int .i64 x.f0, v1, .bool x.f2] :=
  ⟨[.int .i64 x.f0], [v1, .bool x.f2], rfl, rfl, ⟨[v1], [.bool x.f2], rfl, ⟨v1, rfl, g1⟩, rfl⟩⟩
theorem k57q_mkM (w : World) (base : Nat) (ok : Nat → Prop) (x : S57) {v4 : Value} (g4 : Kd.S k28q 28 w base ok v4 x.f4) : k57q.M w base ok x [.int .i64 x.f0, .int .i64 x.f1, .int .i64 x.f2, .bool x.f3, v4] :=
  ⟨[.int .i64 x.f0], [.int .i64 x.f1, .int .i64 x.f2, .bool x.f3, v4], rfl, rfl, ⟨[.int .i64 x.f1], [.int .i64 x.f2, .bool x.f3, v4], rfl, rfl, ⟨[.int .i64 x.f2], [.bool x.f3, v4], rfl, rfl, ⟨[.bool x.f3], [v4], rfl, rfl, ⟨v4, rfl, g4⟩⟩⟩⟩⟩
theorem k57q_openM {w : World} {base : Nat} {ok : Nat → Prop} {x : S57} {cs : List Value} (h : k57q.M w base ok x cs) : ∃ v4, cs = [.int .i64 x.f0, .int .i64 x.f1, .int .i64 x.f2, .bool x.f3, v4] ∧ Kd.S k28q 28 w base ok v4 x.f4 := by
  obtain ⟨_, _, rfl, rfl, ⟨_, _, rfl, rfl, ⟨_, _, rfl, rfl, ⟨_, _, rfl, rfl, ⟨v4, rfl, g4⟩⟩⟩⟩⟩ := h
  exact ⟨v4, rfl, g4⟩
def UnitAt (w : World) (base g : Nat) (ps : List S57) (ts : List S54) : Prop := ∃ P T okP okT, w.heap[g]? = some (.cells #[P, T] 36 (0, 0)) ∧ Kd.S k57q 57 w base okP P ps ∧ Kd.S k54q 54 w base okT T ts ∧ ∀ k, okP k → okT k → False
structure Fr (base g : Nat) (w w' : World) : Prop where
  os : w'.os = w.os
  tape : w'.tape = w.tape
  output : w'.output = w.output
  size : w.heap.size ≤ w'.heap.size
  block : ∀ k, k < base → k ≠ g → w'.heap[k]? = w.heap[k]?
theorem Fr.below {base g N : Nat} {w w' : World} (h : Fr base g w w') (hb : N ≤ base) (hg : N ≤ g) : Below N w w' := ⟨h.os, h.tape, h.output, h.size, fun k hk => h.block k (by omega) (by omega)⟩
theorem Fr.of_below {base g : Nat} {w w' : World} (h : Below base w w') : Fr base g w w' := ⟨h.os, h.tape, h.output, h.size, fun k hk _ => h.block k hk⟩
theorem Fr.trans {base g : Nat} {w w1 w2 : World} (h : Fr base g w w1) (k : Fr base g w1 w2) : Fr base g w w2 := ⟨k.os.trans h.os, k.tape.trans h.tape, k.output.trans h.output, Nat.le_trans h.size k.size, fun j hj hg => (k.block j hj hg).trans (h.block j hj hg)⟩
end Go.Proofs.YtfkfgjmhcfagkaaDoor.Given
end
