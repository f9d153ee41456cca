/- The contract of code.ins: an instruction's line; or that it has what it has not. What it asks: the library's tables lie as they were laid; the line is not longer than a Go string may be. -/
import Derived.Test.YtfkfgjmhcfagkaaDoorGivenB
import Derived.Deep.QuietTactic
import Derived.BigQuiet
import Derived.Deep.RegionHeld3
import Derived.Deep.DeepCutAuto
import Derived.Deep.CutBlock
import Derived.Test.YtfkfgjmhcfagkaaDoorPrint0
namespace Go.Proofs.YtfkfgjmhcfagkaaDoor.Given
open Go.RowKit Go.Proofs.YtfkfgjmhcfagkaaDoorW.PrintWords Go.Proofs.YtfkfgjmhcfagkaaDoor.Print
set_option linter.unusedVariables false
set_option linter.unusedSimpArgs false

theorem heap_keep {w w' : World} {o : Obj} {g : Nat} (h : w.heap[g]? = some o) (hb : Below w.heap.size w w') : w'.heap[g]? = some o := (hb.block g (Array.getElem?_eq_some_iff.1 h).1).trans h
theorem heap_second (w : World) (o o' : Obj) : ((w.alloc o).alloc o').heap[w.heap.size + 1]? = some o' := by
  have h := heap_alloc_new (w.alloc o) o'
  rwa [World.size_alloc] at h
/-- What the world of the call is, behind the row's reading. -/
def InsAt (k : Nat) (a b : Int) (A : Option Addr) (n c : Nat) (h : Int) (w : World) (B : Nat) (W : World) : Prop :=
  W.heap[B]? = some (.cells #[.string (nameAt k), .int .i64 h] 59 (0, 0)) ∧ W.heap[w.heap.size]? = some (.cells #[.int .i64 k, .int .i64 a, .int .i64 b, .slice A n c] 28 (0, 0)) ∧ Below w.heap.size w W

set_option maxRecDepth 100000 in
set_option maxHeartbeats 4000000 in
theorem ins_0 (k : Nat) (a b : Int) (A : Option Addr) (c : Nat) (l : List Int) (w : World) (h1 : 1 ≤ k) (h2 : k ≤ 27) (hn : (nameAt k).toList.isEmpty = false) (hh : hasAt k = 0) (hr : Kd.C (Kd.int .i64) w A l.length l) (hl : ∀ n ∈ l, (Lit.int .i64 n).wf = true) (ha : (Lit.int .i64 a).wf = true) (hb : (Lit.int .i64 b).wf = true) (hL : LW w) (hlen : l.length ≤ 100000000000)
    (hsz : (wordsOf (nameAt k) (([] : List Int) ++ l)).size + 1 ≤ 9223372036854775807) (hok : a = 0 ∧ b = 0 ∧ l.length = 0) :
    Calls Tryd.prog 39 #[.agg #[.int .i64 k, .int .i64 a, .int .i64 b, .slice A l.length c]] w fun e w' => e = .returned (.tuple #[.string (lineOf (nameAt k) (([] : List Int) ++ l)), .bool true]) ∧ Below w.heap.size w w' := by
  have hm := hr.2.1
  have HR := Aside0.mk hr
  have HL := Aside0.mk hL
  have hwf : ∀ n ∈ (([] : List Int) ++ l), (Lit.int .i64 n).wf = true := by
    intro n hn
    simp only [List.mem_append, List.mem_cons, List.not_mem_nil, or_false, false_or] at hn
    exact hl n hn
  have HWF := Aside0.mk hwf
  have HSZ := Aside0.mk hsz
  clear hr hL hwf hsz hl ha hb
  have hix := fun W => index_at W k (by omega)
  rw [hh] at hix
  have hw : ∀ (o : Obj) (W : World), Below (w.alloc o).heap.size (w.alloc o) W → W.heap[w.heap.size]? = some o := fun o W hb => (hb.block w.heap.size (by simp)).trans (heap_alloc_new w o)
  clear hh
  obtain ⟨rfl, rfl, h0⟩ := hok
  obtain rfl : l = [] := List.length_eq_zero_iff.1 h0
  clear h0
  go_enter Tryd.func39, Tryd.ntmps39
  go_wp2_with (go_at_call 10; refine (name_in k _ h1 h2).mono ?_; rintro e w1 ⟨rfl, hb1⟩; have HB1 := Aside0.mk ((below_alloc (Below.refl _ w) _).trans (hb1.mono (by simp))); have HI1 := Aside0.mk (hw _ _ hb1); clear hb1)
  have c10 := cell_of_row w1 w.heap.size 0 _ _ _ HI1.out
  replace c10 : w1.cell? ⟨w.heap.size, 0, none⟩ = some (.int .i64 k) := c10
  clear hw
  go_cut [4] (fun v4 wc => ∃ B, v4 = .pointer (some ⟨B, 0, none⟩) ∧ Aside0 (InsAt k 0 0 A 0 c 0 w B wc))
  case first =>
    have c11 : ∀ o : Obj, (w1.alloc o).cell? ⟨w.heap.size, 0, none⟩ = some (.int .i64 k) := fun o => pw_cell_below (below_alloc (Below.refl _ w1) o) c10
    have c12 : ∀ o o' : Obj, ((w1.alloc o).alloc o').cell? ⟨w.heap.size, 0, none⟩ = some (.int .i64 k) := fun o o' => pw_cell_below (below_alloc (below_alloc (Below.refl _ w1) o) o') c10
    go_region_with (go_at_call 31; refine (table_any _).mono ?_; rintro e w2 ⟨rfl, rfl⟩)
    all_goals go_wp2_with (fail)
    all_goals go_meet
    all_goals first
      | exact ⟨_, rfl, ⟨heap_second w1 _ _, heap_keep HI1.out (below_drew (below_alloc (below_alloc (Below.refl _ _) _) _)), below_drew (below_alloc (below_alloc HB1.out _) _)⟩⟩
      | exact ⟨_, rfl, ⟨heap_keep (heap_alloc_new w1 _) (below_drew (below_alloc (Below.refl _ _) _)), heap_keep HI1.out (below_drew (below_alloc (below_alloc (Below.refl _ _) _) _)), below_drew (below_alloc (below_alloc HB1.out _) _)⟩⟩
  case rest =>
    obtain ⟨B, rfl, HI⟩ := hcut
    clear c10 HI1 HB1
    have rn := (cell_of_row wc B 0 _ _ _ HI.out.1).trans rfl
    have rh := (cell_of_row wc B 1 _ _ _ HI.out.1).trans rfl
    have ia := (cell_of_row wc w.heap.size 1 _ _ _ HI.out.2.1).trans rfl
    have ib := (cell_of_row wc w.heap.size 2 _ _ _ HI.out.2.1).trans rfl
    have il := (cell_of_row wc w.heap.size 3 _ _ _ HI.out.2.1).trans rfl
    replace rn : wc.cell? ⟨B, 0, none⟩ = some (.string (nameAt k)) := rn
    replace rh : wc.cell? ⟨B, 1, none⟩ = some (.int .i64 0) := rh
    replace ia : wc.cell? ⟨w.heap.size, 1, none⟩ = some (.int .i64 0) := ia
    replace ib : wc.cell? ⟨w.heap.size, 2, none⟩ = some (.int .i64 0) := ib
    replace il : wc.cell? ⟨w.heap.size, 3, none⟩ = some (.slice A 0 c) := il
    have t1 : (bits BinOp.and .i64 0 1 != 0) = false := by kernel_rfl
    have t2 : (bits BinOp.and .i64 0 2 != 0) = false := by kernel_rfl
    have t4 : (bits BinOp.and .i64 0 4 == 0) = true := by kernel_rfl
    go_wp2_with (fail)
    have hbd := below_drew (Below.refl wc.heap.size wc)
    have hod : Kd.R (Kd.int .i64) 3 wc.drew wc.heap.size (fun _ => True) (.slice none 0 0) ([] : List Int) := Kd.R_nil _ _ _ _ _
    obtain ⟨xs, hxs⟩ : ∃ xs, xs = ([] : List Int) ++ ([] : List Int) := ⟨_, rfl⟩
    have HXS := Aside0.mk hxs
    have HWF' := HWF.out
    have HSZ' := HSZ.out
    rw [← hxs] at HWF' HSZ'
    have HWX := Aside0.mk HWF'
    have HSX := Aside0.mk HSZ'
    clear hxs HWF' HSZ' HWF HSZ hix
    go_region_held3 (fun X => X.cell? ⟨B, 0, none⟩ = some (.string (nameAt k)) ∧ X.cell? ⟨w.heap.size, 3, none⟩ = some (.slice A 0 c)) (first | go_keep | exact ⟨pw_cell_below HB10.out (pw_cell_below HB9.out rn), pw_cell_below HB10.out (pw_cell_below HB9.out il)⟩ | exact ⟨pw_cell_below HB9.out rn, pw_cell_below HB9.out il⟩)
      (first
        | (refine Kd.R_append_rows_step (Kd.int .i64) (w0 := wc) wc.heap.size (by rfl) (.tmp 50) (.tmp 52) 26 3 (.int .i64 0) 8 (by rfl) Tryd.underlying26 info3 (by rfl) (by decide) (by omega) (.slice none 0 0) ([] : List Int) ([] : List Int) A 0 c (fun _ => True) (fun _ => False) (by rfl) (by rfl) hod (Kd.C_below HR.out (HI.out.2.2.trans (hbd.mono HI.out.2.2.size))) (fun _ _ h => h) (fun _ h => h.elim) (fun _ _ => trivial) hbd hbd.size (by first | (simp; done) | (simp; omega)) ?_; intro v9 w9 ho9 hb9 _ _; rw [← HXS.out] at ho9; obtain ⟨A9, c9, rfl, hc9, hC9⟩ := Kd.R_reads ho9; have HB9 := Aside0.mk hb9; have HC9 := Aside0.mk hC9; clear ho9 hb9 hC9)
        | (go_at_call 37; refine (line_any A9 c9 xs (nameAt k) _ HC9.out HWX.out (HL.out.below (HI.out.2.2.trans (HB9.out.mono HI.out.2.2.size))) HSX.out).mono ?_; rintro e w10 ⟨rfl, hb10⟩; have HB10 := Aside0.mk hb10; clear hb10))
    go_wp2_with (fail)
    go_ret2
    have hbb := below_then HI.out.2.2 HI.out.2.2.size HB9.out
    exact ⟨by rw [HXS.out]; rfl, below_then hbb hbb.size HB10.out⟩

set_option maxRecDepth 100000 in
set_option maxHeartbeats 4000000 in
theorem ins_1 (k : Nat) (a b : Int) (A : Option Addr) (c : Nat) (l : List Int) (w : World) (h1 : 1 ≤ k) (h2 : k ≤ 27) (hn : (nameAt k).toList.isEmpty = false) (hh : hasAt k = 1) (hr : Kd.C (Kd.int .i64) w A l.length l) (hl : ∀ n ∈ l, (Lit.int .i64 n).wf = true) (ha : (Lit.int .i64 a).wf = true) (hb : (Lit.int .i64 b).wf = true) (hL : LW w) (hlen : l.length ≤ 100000000000)
    (hsz : (wordsOf (nameAt k) ([a] ++ l)).size + 1 ≤ 9223372036854775807) (hok : b = 0 ∧ l.length = 0) :
    Calls Tryd.prog 39 #[.agg #[.int .i64 k, .int .i64 a, .int .i64 b, .slice A l.length c]] w fun e w' => e = .returned (.tuple #[.string (lineOf (nameAt k) ([a] ++ l)), .bool true]) ∧ Below w.heap.size w w' := by
  have hm := hr.2.1
  have HR := Aside0.mk hr
  have HL := Aside0.mk hL
  have hwf : ∀ n ∈ ([a] ++ l), (Lit.int .i64 n).wf = true := by
    intro n hn
    simp only [List.mem_append, List.mem_cons, List.not_mem_nil, or_false, false_or] at hn
    rcases hn with rfl | hn
    · exact ha
    · exact hl n hn
  have HWF := Aside0.mk hwf
  have HSZ := Aside0.mk hsz
  clear hr hL hwf hsz hl ha hb
  have hix := fun W => index_at W k (by omega)
  rw [hh] at hix
  have hw : ∀ (o : Obj) (W : World), Below (w.alloc o).heap.size (w.alloc o) W → W.heap[w.heap.size]? = some o := fun o W hb => (hb.block w.heap.size (by simp)).trans (heap_alloc_new w o)
  clear hh
  obtain ⟨rfl, h0⟩ := hok
  obtain rfl : l = [] := List.length_eq_zero_iff.1 h0
  clear h0
  go_enter Tryd.func39, Tryd.ntmps39
  go_wp2_with (go_at_call 10; refine (name_in k _ h1 h2).mono ?_; rintro e w1 ⟨rfl, hb1⟩; have HB1 := Aside0.mk ((below_alloc (Below.refl _ w) _).trans (hb1.mono (by simp))); have HI1 := Aside0.mk (hw _ _ hb1); clear hb1)
  have c10 := cell_of_row w1 w.heap.size 0 _ _ _ HI1.out
  replace c10 : w1.cell? ⟨w.heap.size, 0, none⟩ = some (.int .i64 k) := c10
  clear hw
  go_cut [4] (fun v4 wc => ∃ B, v4 = .pointer (some ⟨B, 0, none⟩) ∧ Aside0 (InsAt k a 0 A 0 c 1 w B wc))
  case first =>
    have c11 : ∀ o : Obj, (w1.alloc o).cell? ⟨w.heap.size, 0, none⟩ = some (.int .i64 k) := fun o => pw_cell_below (below_alloc (Below.refl _ w1) o) c10
    have c12 : ∀ o o' : Obj, ((w1.alloc o).alloc o').cell? ⟨w.heap.size, 0, none⟩ = some (.int .i64 k) := fun o o' => pw_cell_below (below_alloc (below_alloc (Below.refl _ w1) o) o') c10
    go_region_with (go_at_call 31; refine (table_any _).mono ?_; rintro e w2 ⟨rfl, rfl⟩)
    all_goals go_wp2_with (fail)
    all_goals go_meet
    all_goals first
      | exact ⟨_, rfl, ⟨heap_second w1 _ _, heap_keep HI1.out (below_drew (below_alloc (below_alloc (Below.refl _ _) _) _)), below_drew (below_alloc (below_alloc HB1.out _) _)⟩⟩
      | exact ⟨_, rfl, ⟨heap_keep (heap_alloc_new w1 _) (below_drew (below_alloc (Below.refl _ _) _)), heap_keep HI1.out (below_drew (below_alloc (below_alloc (Below.refl _ _) _) _)), below_drew (below_alloc (below_alloc HB1.out _) _)⟩⟩
  case rest =>
    obtain ⟨B, rfl, HI⟩ := hcut
    clear c10 HI1 HB1
    have rn := (cell_of_row wc B 0 _ _ _ HI.out.1).trans rfl
    have rh := (cell_of_row wc B 1 _ _ _ HI.out.1).trans rfl
    have ia := (cell_of_row wc w.heap.size 1 _ _ _ HI.out.2.1).trans rfl
    have ib := (cell_of_row wc w.heap.size 2 _ _ _ HI.out.2.1).trans rfl
    have il := (cell_of_row wc w.heap.size 3 _ _ _ HI.out.2.1).trans rfl
    replace rn : wc.cell? ⟨B, 0, none⟩ = some (.string (nameAt k)) := rn
    replace rh : wc.cell? ⟨B, 1, none⟩ = some (.int .i64 1) := rh
    replace ia : wc.cell? ⟨w.heap.size, 1, none⟩ = some (.int .i64 a) := ia
    replace ib : wc.cell? ⟨w.heap.size, 2, none⟩ = some (.int .i64 0) := ib
    replace il : wc.cell? ⟨w.heap.size, 3, none⟩ = some (.slice A 0 c) := il
    have t1 : (bits BinOp.and .i64 1 1 != 0) = true := by kernel_rfl
    have t2 : (bits BinOp.and .i64 1 2 != 0) = false := by kernel_rfl
    have t4 : (bits BinOp.and .i64 1 4 == 0) = true := by kernel_rfl
    go_wp2_with (first | ((with_reducible refine gate_builtin (b := .append) (xs := #[.tmp 18, .tmp 21]) rfl ?_); at_builtin; refine Kd.R_append (Kd.int .i64) (w0 := wc) wc.heap.size rfl (.tmp 18) (.tmp 21) 26 3 (.int .i64 0) 8 rfl Tryd.underlying26 info3 rfl (by decide) (by omega) (.slice none 0 0) ([] : List Int) a [.int .i64 a] (fun _ => True) (fun _ => False) rfl rfl ?aP (fun _ hk => hk.elim) ?aF ?aO ?aB ?aS ?aL ?_; (case aP => exact rfl); (case aB => exact Below.refl _ _); (case aF => exact (fun _ _ => trivial)); (case aO => exact Kd.R_nil _ _ _ _ _); (case aS => exact Nat.le_refl _); (case aL => simp); intro v6 w6 ho hb hg_ hat_; clear hg_ hat_; have HO6 : Aside0 (Kd.R (Kd.int .i64) 3 w6 wc.heap.size (fun _ => True) v6 [a]) := ⟨ho⟩; have HB6 := Aside0.mk hb; have rn6 := pw_cell_below hb rn; have rh6 := pw_cell_below hb rh; have ib6 := pw_cell_below hb ib; have il6 := pw_cell_below hb il; clear ho hb))
    have hbd := below_drew HB6.out
    have hod := Kd.R_drew HO6.out
    obtain ⟨xs, hxs⟩ : ∃ xs, xs = [a] ++ ([] : List Int) := ⟨_, rfl⟩
    have HXS := Aside0.mk hxs
    have HWF' := HWF.out
    have HSZ' := HSZ.out
    rw [← hxs] at HWF' HSZ'
    have HWX := Aside0.mk HWF'
    have HSX := Aside0.mk HSZ'
    clear hxs HWF' HSZ' HWF HSZ hix
    go_region_held3 (fun X => X.cell? ⟨B, 0, none⟩ = some (.string (nameAt k)) ∧ X.cell? ⟨w.heap.size, 3, none⟩ = some (.slice A 0 c)) (first | go_keep | exact ⟨pw_cell_below HB10.out (pw_cell_below HB9.out rn), pw_cell_below HB10.out (pw_cell_below HB9.out il)⟩ | exact ⟨pw_cell_below HB9.out rn, pw_cell_below HB9.out il⟩)
      (first
        | (refine Kd.R_append_rows_step (Kd.int .i64) (w0 := wc) wc.heap.size (by rfl) (.tmp 50) (.tmp 52) 26 3 (.int .i64 0) 8 (by rfl) Tryd.underlying26 info3 (by rfl) (by decide) (by omega) v6 [a] ([] : List Int) A 0 c (fun _ => True) (fun _ => False) (by rfl) (by rfl) hod (Kd.C_below HR.out (HI.out.2.2.trans (hbd.mono HI.out.2.2.size))) (fun _ _ h => h) (fun _ h => h.elim) (fun _ _ => trivial) hbd hbd.size (by first | (simp; done) | (simp; omega)) ?_; intro v9 w9 ho9 hb9 _ _; rw [← HXS.out] at ho9; obtain ⟨A9, c9, rfl, hc9, hC9⟩ := Kd.R_reads ho9; have HB9 := Aside0.mk hb9; have HC9 := Aside0.mk hC9; clear ho9 hb9 hC9)
        | (go_at_call 37; refine (line_any A9 c9 xs (nameAt k) _ HC9.out HWX.out (HL.out.below (HI.out.2.2.trans (HB9.out.mono HI.out.2.2.size))) HSX.out).mono ?_; rintro e w10 ⟨rfl, hb10⟩; have HB10 := Aside0.mk hb10; clear hb10))
    go_wp2_with (fail)
    go_ret2
    have hbb := below_then HI.out.2.2 HI.out.2.2.size HB9.out
    exact ⟨by rw [HXS.out]; rfl, below_then hbb hbb.size HB10.out⟩

set_option maxRecDepth 100000 in
set_option maxHeartbeats 4000000 in
theorem ins_3 (k : Nat) (a b : Int) (A : Option Addr) (c : Nat) (l : List Int) (w : World) (h1 : 1 ≤ k) (h2 : k ≤ 27) (hn : (nameAt k).toList.isEmpty = false) (hh : hasAt k = 3) (hr : Kd.C (Kd.int .i64) w A l.length l) (hl : ∀ n ∈ l, (Lit.int .i64 n).wf = true) (ha : (Lit.int .i64 a).wf = true) (hb : (Lit.int .i64 b).wf = true) (hL : LW w) (hlen : l.length ≤ 100000000000)
    (hsz : (wordsOf (nameAt k) ([a, b] ++ l)).size + 1 ≤ 9223372036854775807) (hok : l.length = 0) :
    Calls Tryd.prog 39 #[.agg #[.int .i64 k, .int .i64 a, .int .i64 b, .slice A l.length c]] w fun e w' => e = .returned (.tuple #[.string (lineOf (nameAt k) ([a, b] ++ l)), .bool true]) ∧ Below w.heap.size w w' := by
  have hm := hr.2.1
  have HR := Aside0.mk hr
  have HL := Aside0.mk hL
  have hwf : ∀ n ∈ ([a, b] ++ l), (Lit.int .i64 n).wf = true := by
    intro n hn
    simp only [List.mem_append, List.mem_cons, List.not_mem_nil, or_false, false_or] at hn
    rcases hn with (rfl | rfl) | hn
    · exact ha
    · exact hb
    · exact hl n hn
  have HWF := Aside0.mk hwf
  have HSZ := Aside0.mk hsz
  clear hr hL hwf hsz hl ha hb
  have hix := fun W => index_at W k (by omega)
  rw [hh] at hix
  have hw : ∀ (o : Obj) (W : World), Below (w.alloc o).heap.size (w.alloc o) W → W.heap[w.heap.size]? = some o := fun o W hb => (hb.block w.heap.size (by simp)).trans (heap_alloc_new w o)
  clear hh
  obtain rfl : l = [] := List.length_eq_zero_iff.1 hok
  clear hok
  go_enter Tryd.func39, Tryd.ntmps39
  go_wp2_with (go_at_call 10; refine (name_in k _ h1 h2).mono ?_; rintro e w1 ⟨rfl, hb1⟩; have HB1 := Aside0.mk ((below_alloc (Below.refl _ w) _).trans (hb1.mono (by simp))); have HI1 := Aside0.mk (hw _ _ hb1); clear hb1)
  have c10 := cell_of_row w1 w.heap.size 0 _ _ _ HI1.out
  replace c10 : w1.cell? ⟨w.heap.size, 0, none⟩ = some (.int .i64 k) := c10
  clear hw
  go_cut [4] (fun v4 wc => ∃ B, v4 = .pointer (some ⟨B, 0, none⟩) ∧ Aside0 (InsAt k a b A 0 c 3 w B wc))
  case first =>
    have c11 : ∀ o : Obj, (w1.alloc o).cell? ⟨w.heap.size, 0, none⟩ = some (.int .i64 k) := fun o => pw_cell_below (below_alloc (Below.refl _ w1) o) c10
    have c12 : ∀ o o' : Obj, ((w1.alloc o).alloc o').cell? ⟨w.heap.size, 0, none⟩ = some (.int .i64 k) := fun o o' => pw_cell_below (below_alloc (below_alloc (Below.refl _ w1) o) o') c10
    go_region_with (go_at_call 31; refine (table_any _).mono ?_; rintro e w2 ⟨rfl, rfl⟩)
    all_goals go_wp2_with (fail)
    all_goals go_meet
    all_goals first
      | exact ⟨_, rfl, ⟨heap_second w1 _ _, heap_keep HI1.out (below_drew (below_alloc (below_alloc (Below.refl _ _) _) _)), below_drew (below_alloc (below_alloc HB1.out _) _)⟩⟩
      | exact ⟨_, rfl, ⟨heap_keep (heap_alloc_new w1 _) (below_drew (below_alloc (Below.refl _ _) _)), heap_keep HI1.out (below_drew (below_alloc (below_alloc (Below.refl _ _) _) _)), below_drew (below_alloc (below_alloc HB1.out _) _)⟩⟩
  case rest =>
    obtain ⟨B, rfl, HI⟩ := hcut
    clear c10 HI1 HB1
    have rn := (cell_of_row wc B 0 _ _ _ HI.out.1).trans rfl
    have rh := (cell_of_row wc B 1 _ _ _ HI.out.1).trans rfl
    have ia := (cell_of_row wc w.heap.size 1 _ _ _ HI.out.2.1).trans rfl
    have ib := (cell_of_row wc w.heap.size 2 _ _ _ HI.out.2.1).trans rfl
    have il := (cell_of_row wc w.heap.size 3 _ _ _ HI.out.2.1).trans rfl
    replace rn : wc.cell? ⟨B, 0, none⟩ = some (.string (nameAt k)) := rn
    replace rh : wc.cell? ⟨B, 1, none⟩ = some (.int .i64 3) := rh
    replace ia : wc.cell? ⟨w.heap.size, 1, none⟩ = some (.int .i64 a) := ia
    replace ib : wc.cell? ⟨w.heap.size, 2, none⟩ = some (.int .i64 b) := ib
    replace il : wc.cell? ⟨w.heap.size, 3, none⟩ = some (.slice A 0 c) := il
    have t1 : (bits BinOp.and .i64 3 1 != 0) = true := by kernel_rfl
    have t2 : (bits BinOp.and .i64 3 2 != 0) = true := by kernel_rfl
    have t4 : (bits BinOp.and .i64 3 4 == 0) = true := by kernel_rfl
    go_wp2_with (first | ((with_reducible refine gate_builtin (b := .append) (xs := #[.tmp 18, .tmp 21]) rfl ?_); at_builtin; refine Kd.R_append (Kd.int .i64) (w0 := wc) wc.heap.size rfl (.tmp 18) (.tmp 21) 26 3 (.int .i64 0) 8 rfl Tryd.underlying26 info3 rfl (by decide) (by omega) (.slice none 0 0) ([] : List Int) a [.int .i64 a] (fun _ => True) (fun _ => False) rfl rfl ?aP (fun _ hk => hk.elim) ?aF ?aO ?aB ?aS ?aL ?_; (case aP => exact rfl); (case aB => exact Below.refl _ _); (case aF => exact (fun _ _ => trivial)); (case aO => exact Kd.R_nil _ _ _ _ _); (case aS => exact Nat.le_refl _); (case aL => simp); intro v6 w6 ho hb hg_ hat_; clear hg_ hat_; have HO6 : Aside0 (Kd.R (Kd.int .i64) 3 w6 wc.heap.size (fun _ => True) v6 [a]) := ⟨ho⟩; have HB6 := Aside0.mk hb; have rn6 := pw_cell_below hb rn; have rh6 := pw_cell_below hb rh; have ib6 := pw_cell_below hb ib; have il6 := pw_cell_below hb il; clear ho hb) | ((with_reducible refine gate_builtin (b := .append) (xs := #[.tmp 30, .tmp 33]) rfl ?_); at_builtin; refine Kd.R_append (Kd.int .i64) (w0 := wc) wc.heap.size rfl (.tmp 30) (.tmp 33) 26 3 (.int .i64 0) 8 rfl Tryd.underlying26 info3 rfl (by decide) (by omega) v6 [a] b [.int .i64 b] (fun _ => True) (fun _ => False) rfl rfl ?aP (fun _ hk => hk.elim) ?aF ?aO ?aB ?aS ?aL ?_; (case aP => exact rfl); (case aB => exact HB6.out); (case aF => exact (fun _ _ => trivial)); (case aO => exact HO6.out); (case aS => exact HB6.out.size); (case aL => simp); intro v7 w7 ho hb hg_ hat_; clear hg_ hat_; have HO7 : Aside0 (Kd.R (Kd.int .i64) 3 w7 wc.heap.size (fun _ => True) v7 [a, b]) := ⟨ho⟩; have HB7 := Aside0.mk hb; have rn7 := pw_cell_below hb rn; have rh7 := pw_cell_below hb rh; have ib7 := pw_cell_below hb ib; have il7 := pw_cell_below hb il; clear ho hb))
    have hbd := below_drew HB7.out
    have hod := Kd.R_drew HO7.out
    obtain ⟨xs, hxs⟩ : ∃ xs, xs = [a, b] ++ ([] : List Int) := ⟨_, rfl⟩
    have HXS := Aside0.mk hxs
    have HWF' := HWF.out
    have HSZ' := HSZ.out
    rw [← hxs] at HWF' HSZ'
    have HWX := Aside0.mk HWF'
    have HSX := Aside0.mk HSZ'
    clear hxs HWF' HSZ' HWF HSZ hix
    go_region_held3 (fun X => X.cell? ⟨B, 0, none⟩ = some (.string (nameAt k)) ∧ X.cell? ⟨w.heap.size, 3, none⟩ = some (.slice A 0 c)) (first | go_keep | exact ⟨pw_cell_below HB10.out (pw_cell_below HB9.out rn), pw_cell_below HB10.out (pw_cell_below HB9.out il)⟩ | exact ⟨pw_cell_below HB9.out rn, pw_cell_below HB9.out il⟩)
      (first
        | (refine Kd.R_append_rows_step (Kd.int .i64) (w0 := wc) wc.heap.size (by rfl) (.tmp 50) (.tmp 52) 26 3 (.int .i64 0) 8 (by rfl) Tryd.underlying26 info3 (by rfl) (by decide) (by omega) v7 [a, b] ([] : List Int) A 0 c (fun _ => True) (fun _ => False) (by rfl) (by rfl) hod (Kd.C_below HR.out (HI.out.2.2.trans (hbd.mono HI.out.2.2.size))) (fun _ _ h => h) (fun _ h => h.elim) (fun _ _ => trivial) hbd hbd.size (by first | (simp; done) | (simp; omega)) ?_; intro v9 w9 ho9 hb9 _ _; rw [← HXS.out] at ho9; obtain ⟨A9, c9, rfl, hc9, hC9⟩ := Kd.R_reads ho9; have HB9 := Aside0.mk hb9; have HC9 := Aside0.mk hC9; clear ho9 hb9 hC9)
        | (go_at_call 37; refine (line_any A9 c9 xs (nameAt k) _ HC9.out HWX.out (HL.out.below (HI.out.2.2.trans (HB9.out.mono HI.out.2.2.size))) HSX.out).mono ?_; rintro e w10 ⟨rfl, hb10⟩; have HB10 := Aside0.mk hb10; clear hb10))
    go_wp2_with (fail)
    go_ret2
    have hbb := below_then HI.out.2.2 HI.out.2.2.size HB9.out
    exact ⟨by rw [HXS.out]; rfl, below_then hbb hbb.size HB10.out⟩

set_option maxRecDepth 100000 in
set_option maxHeartbeats 4000000 in
theorem ins_4 (k : Nat) (a b : Int) (A : Option Addr) (c : Nat) (l : List Int) (w : World) (h1 : 1 ≤ k) (h2 : k ≤ 27) (hn : (nameAt k).toList.isEmpty = false) (hh : hasAt k = 4) (hr : Kd.C (Kd.int .i64) w A l.length l) (hl : ∀ n ∈ l, (Lit.int .i64 n).wf = true) (ha : (Lit.int .i64 a).wf = true) (hb : (Lit.int .i64 b).wf = true) (hL : LW w) (hlen : l.length ≤ 100000000000)
    (hsz : (wordsOf (nameAt k) (([] : List Int) ++ l)).size + 1 ≤ 9223372036854775807) (hok : a = 0 ∧ b = 0) :
    Calls Tryd.prog 39 #[.agg #[.int .i64 k, .int .i64 a, .int .i64 b, .slice A l.length c]] w fun e w' => e = .returned (.tuple #[.string (lineOf (nameAt k) (([] : List Int) ++ l)), .bool true]) ∧ Below w.heap.size w w' := by
  have hm := hr.2.1
  have HR := Aside0.mk hr
  have HL := Aside0.mk hL
  have hwf : ∀ n ∈ (([] : List Int) ++ l), (Lit.int .i64 n).wf = true := by
    intro n hn
    simp only [List.mem_append, List.mem_cons, List.not_mem_nil, or_false, false_or] at hn
    exact hl n hn
  have HWF := Aside0.mk hwf
  have HSZ := Aside0.mk hsz
  clear hr hL hwf hsz hl ha hb
  have hix := fun W => index_at W k (by omega)
  rw [hh] at hix
  have hw : ∀ (o : Obj) (W : World), Below (w.alloc o).heap.size (w.alloc o) W → W.heap[w.heap.size]? = some o := fun o W hb => (hb.block w.heap.size (by simp)).trans (heap_alloc_new w o)
  clear hh
  obtain ⟨rfl, rfl⟩ := hok
  go_enter Tryd.func39, Tryd.ntmps39
  go_wp2_with (go_at_call 10; refine (name_in k _ h1 h2).mono ?_; rintro e w1 ⟨rfl, hb1⟩; have HB1 := Aside0.mk ((below_alloc (Below.refl _ w) _).trans (hb1.mono (by simp))); have HI1 := Aside0.mk (hw _ _ hb1); clear hb1)
  have c10 := cell_of_row w1 w.heap.size 0 _ _ _ HI1.out
  replace c10 : w1.cell? ⟨w.heap.size, 0, none⟩ = some (.int .i64 k) := c10
  clear hw
  go_cut [4] (fun v4 wc => ∃ B, v4 = .pointer (some ⟨B, 0, none⟩) ∧ Aside0 (InsAt k 0 0 A l.length c 4 w B wc))
  case first =>
    have c11 : ∀ o : Obj, (w1.alloc o).cell? ⟨w.heap.size, 0, none⟩ = some (.int .i64 k) := fun o => pw_cell_below (below_alloc (Below.refl _ w1) o) c10
    have c12 : ∀ o o' : Obj, ((w1.alloc o).alloc o').cell? ⟨w.heap.size, 0, none⟩ = some (.int .i64 k) := fun o o' => pw_cell_below (below_alloc (below_alloc (Below.refl _ w1) o) o') c10
    go_region_with (go_at_call 31; refine (table_any _).mono ?_; rintro e w2 ⟨rfl, rfl⟩)
    all_goals go_wp2_with (fail)
    all_goals go_meet
    all_goals first
      | exact ⟨_, rfl, ⟨heap_second w1 _ _, heap_keep HI1.out (below_drew (below_alloc (below_alloc (Below.refl _ _) _) _)), below_drew (below_alloc (below_alloc HB1.out _) _)⟩⟩
      | exact ⟨_, rfl, ⟨heap_keep (heap_alloc_new w1 _) (below_drew (below_alloc (Below.refl _ _) _)), heap_keep HI1.out (below_drew (below_alloc (below_alloc (Below.refl _ _) _) _)), below_drew (below_alloc (below_alloc HB1.out _) _)⟩⟩
  case rest =>
    obtain ⟨B, rfl, HI⟩ := hcut
    clear c10 HI1 HB1
    have rn := (cell_of_row wc B 0 _ _ _ HI.out.1).trans rfl
    have rh := (cell_of_row wc B 1 _ _ _ HI.out.1).trans rfl
    have ia := (cell_of_row wc w.heap.size 1 _ _ _ HI.out.2.1).trans rfl
    have ib := (cell_of_row wc w.heap.size 2 _ _ _ HI.out.2.1).trans rfl
    have il := (cell_of_row wc w.heap.size 3 _ _ _ HI.out.2.1).trans rfl
    replace rn : wc.cell? ⟨B, 0, none⟩ = some (.string (nameAt k)) := rn
    replace rh : wc.cell? ⟨B, 1, none⟩ = some (.int .i64 4) := rh
    replace ia : wc.cell? ⟨w.heap.size, 1, none⟩ = some (.int .i64 0) := ia
    replace ib : wc.cell? ⟨w.heap.size, 2, none⟩ = some (.int .i64 0) := ib
    replace il : wc.cell? ⟨w.heap.size, 3, none⟩ = some (.slice A l.length c) := il
    have t1 : (bits BinOp.and .i64 4 1 != 0) = false := by kernel_rfl
    have t2 : (bits BinOp.and .i64 4 2 != 0) = false := by kernel_rfl
    have t4 : (bits BinOp.and .i64 4 4 == 0) = false := by kernel_rfl
    go_wp2_with (fail)
    have hbd := below_drew (Below.refl wc.heap.size wc)
    have hod : Kd.R (Kd.int .i64) 3 wc.drew wc.heap.size (fun _ => True) (.slice none 0 0) ([] : List Int) := Kd.R_nil _ _ _ _ _
    obtain ⟨xs, hxs⟩ : ∃ xs, xs = ([] : List Int) ++ l := ⟨_, rfl⟩
    have HXS := Aside0.mk hxs
    have HWF' := HWF.out
    have HSZ' := HSZ.out
    rw [← hxs] at HWF' HSZ'
    have HWX := Aside0.mk HWF'
    have HSX := Aside0.mk HSZ'
    clear hxs HWF' HSZ' HWF HSZ hix
    go_region_held3 (fun X => X.cell? ⟨B, 0, none⟩ = some (.string (nameAt k)) ∧ X.cell? ⟨w.heap.size, 3, none⟩ = some (.slice A l.length c)) (first | go_keep | exact ⟨pw_cell_below HB10.out (pw_cell_below HB9.out rn), pw_cell_below HB10.out (pw_cell_below HB9.out il)⟩ | exact ⟨pw_cell_below HB9.out rn, pw_cell_below HB9.out il⟩)
      (first
        | (refine Kd.R_append_rows_step (Kd.int .i64) (w0 := wc) wc.heap.size (by rfl) (.tmp 50) (.tmp 52) 26 3 (.int .i64 0) 8 (by rfl) Tryd.underlying26 info3 (by rfl) (by decide) (by omega) (.slice none 0 0) ([] : List Int) l A l.length c (fun _ => True) (fun _ => False) (by rfl) (by rfl) hod (Kd.C_below HR.out (HI.out.2.2.trans (hbd.mono HI.out.2.2.size))) (fun _ _ h => h) (fun _ h => h.elim) (fun _ _ => trivial) hbd hbd.size (by first | (simp; done) | (simp; omega)) ?_; intro v9 w9 ho9 hb9 _ _; rw [← HXS.out] at ho9; obtain ⟨A9, c9, rfl, hc9, hC9⟩ := Kd.R_reads ho9; have HB9 := Aside0.mk hb9; have HC9 := Aside0.mk hC9; clear ho9 hb9 hC9)
        | (go_at_call 37; refine (line_any A9 c9 xs (nameAt k) _ HC9.out HWX.out (HL.out.below (HI.out.2.2.trans (HB9.out.mono HI.out.2.2.size))) HSX.out).mono ?_; rintro e w10 ⟨rfl, hb10⟩; have HB10 := Aside0.mk hb10; clear hb10))
    go_wp2_with (fail)
    go_ret2
    have hbb := below_then HI.out.2.2 HI.out.2.2.size HB9.out
    exact ⟨by rw [HXS.out]; rfl, below_then hbb hbb.size HB10.out⟩

set_option maxRecDepth 100000 in
set_option maxHeartbeats 4000000 in
theorem ins_5 (k : Nat) (a b : Int) (A : Option Addr) (c : Nat) (l : List Int) (w : World) (h1 : 1 ≤ k) (h2 : k ≤ 27) (hn : (nameAt k).toList.isEmpty = false) (hh : hasAt k = 5) (hr : Kd.C (Kd.int .i64) w A l.length l) (hl : ∀ n ∈ l, (Lit.int .i64 n).wf = true) (ha : (Lit.int .i64 a).wf = true) (hb : (Lit.int .i64 b).wf = true) (hL : LW w) (hlen : l.length ≤ 100000000000)
    (hsz : (wordsOf (nameAt k) ([a] ++ l)).size + 1 ≤ 9223372036854775807) (hok : b = 0) :
    Calls Tryd.prog 39 #[.agg #[.int .i64 k, .int .i64 a, .int .i64 b, .slice A l.length c]] w fun e w' => e = .returned (.tuple #[.string (lineOf (nameAt k) ([a] ++ l)), .bool true]) ∧ Below w.heap.size w w' := by
  have hm := hr.2.1
  have HR := Aside0.mk hr
  have HL := Aside0.mk hL
  have hwf : ∀ n ∈ ([a] ++ l), (Lit.int .i64 n).wf = true := by
    intro n hn
    simp only [List.mem_append, List.mem_cons, List.not_mem_nil, or_false, false_or] at hn
    rcases hn with rfl | hn
    · exact ha
    · exact hl n hn
  have HWF := Aside0.mk hwf
  have HSZ := Aside0.mk hsz
  clear hr hL hwf hsz hl ha hb
  have hix := fun W => index_at W k (by omega)
  rw [hh] at hix
  have hw : ∀ (o : Obj) (W : World), Below (w.alloc o).heap.size (w.alloc o) W → W.heap[w.heap.size]? = some o := fun o W hb => (hb.block w.heap.size (by simp)).trans (heap_alloc_new w o)
  clear hh
  obtain rfl := hok
  go_enter Tryd.func39, Tryd.ntmps39
  go_wp2_with (go_at_call 10; refine (name_in k _ h1 h2).mono ?_; rintro e w1 ⟨rfl, hb1⟩; have HB1 := Aside0.mk ((below_alloc (Below.refl _ w) _).trans (hb1.mono (by simp))); have HI1 := Aside0.mk (hw _ _ hb1); clear hb1)
  have c10 := cell_of_row w1 w.heap.size 0 _ _ _ HI1.out
  replace c10 : w1.cell? ⟨w.heap.size, 0, none⟩ = some (.int .i64 k) := c10
  clear hw
  go_cut [4] (fun v4 wc => ∃ B, v4 = .pointer (some ⟨B, 0, none⟩) ∧ Aside0 (InsAt k a 0 A l.length c 5 w B wc))
  case first =>
    have c11 : ∀ o : Obj, (w1.alloc o).cell? ⟨w.heap.size, 0, none⟩ = some (.int .i64 k) := fun o => pw_cell_below (below_alloc (Below.refl _ w1) o) c10
    have c12 : ∀ o o' : Obj, ((w1.alloc o).alloc o').cell? ⟨w.heap.size, 0, none⟩ = some (.int .i64 k) := fun o o' => pw_cell_below (below_alloc (below_alloc (Below.refl _ w1) o) o') c10
    go_region_with (go_at_call 31; refine (table_any _).mono ?_; rintro e w2 ⟨rfl, rfl⟩)
    all_goals go_wp2_with (fail)
    all_goals go_meet
    all_goals first
      | exact ⟨_, rfl, ⟨heap_second w1 _ _, heap_keep HI1.out (below_drew (below_alloc (below_alloc (Below.refl _ _) _) _)), below_drew (below_alloc (below_alloc HB1.out _) _)⟩⟩
      | exact ⟨_, rfl, ⟨heap_keep (heap_alloc_new w1 _) (below_drew (below_alloc (Below.refl _ _) _)), heap_keep HI1.out (below_drew (below_alloc (below_alloc (Below.refl _ _) _) _)), below_drew (below_alloc (below_alloc HB1.out _) _)⟩⟩
  case rest =>
    obtain ⟨B, rfl, HI⟩ := hcut
    clear c10 HI1 HB1
    have rn := (cell_of_row wc B 0 _ _ _ HI.out.1).trans rfl
    have rh := (cell_of_row wc B 1 _ _ _ HI.out.1).trans rfl
    have ia := (cell_of_row wc w.heap.size 1 _ _ _ HI.out.2.1).trans rfl
    have ib := (cell_of_row wc w.heap.size 2 _ _ _ HI.out.2.1).trans rfl
    have il := (cell_of_row wc w.heap.size 3 _ _ _ HI.out.2.1).trans rfl
    replace rn : wc.cell? ⟨B, 0, none⟩ = some (.string (nameAt k)) := rn
    replace rh : wc.cell? ⟨B, 1, none⟩ = some (.int .i64 5) := rh
    replace ia : wc.cell? ⟨w.heap.size, 1, none⟩ = some (.int .i64 a) := ia
    replace ib : wc.cell? ⟨w.heap.size, 2, none⟩ = some (.int .i64 0) := ib
    replace il : wc.cell? ⟨w.heap.size, 3, none⟩ = some (.slice A l.length c) := il
    have t1 : (bits BinOp.and .i64 5 1 != 0) = true := by kernel_rfl
    have t2 : (bits BinOp.and .i64 5 2 != 0) = false := by kernel_rfl
    have t4 : (bits BinOp.and .i64 5 4 == 0) = false := by kernel_rfl
    go_wp2_with (first | ((with_reducible refine gate_builtin (b := .append) (xs := #[.tmp 18, .tmp 21]) rfl ?_); at_builtin; refine Kd.R_append (Kd.int .i64) (w0 := wc) wc.heap.size rfl (.tmp 18) (.tmp 21) 26 3 (.int .i64 0) 8 rfl Tryd.underlying26 info3 rfl (by decide) (by omega) (.slice none 0 0) ([] : List Int) a [.int .i64 a] (fun _ => True) (fun _ => False) rfl rfl ?aP (fun _ hk => hk.elim) ?aF ?aO ?aB ?aS ?aL ?_; (case aP => exact rfl); (case aB => exact Below.refl _ _); (case aF => exact (fun _ _ => trivial)); (case aO => exact Kd.R_nil _ _ _ _ _); (case aS => exact Nat.le_refl _); (case aL => simp); intro v6 w6 ho hb hg_ hat_; clear hg_ hat_; have HO6 : Aside0 (Kd.R (Kd.int .i64) 3 w6 wc.heap.size (fun _ => True) v6 [a]) := ⟨ho⟩; have HB6 := Aside0.mk hb; have rn6 := pw_cell_below hb rn; have rh6 := pw_cell_below hb rh; have ib6 := pw_cell_below hb ib; have il6 := pw_cell_below hb il; clear ho hb))
    have hbd := below_drew HB6.out
    have hod := Kd.R_drew HO6.out
    obtain ⟨xs, hxs⟩ : ∃ xs, xs = [a] ++ l := ⟨_, rfl⟩
    have HXS := Aside0.mk hxs
    have HWF' := HWF.out
    have HSZ' := HSZ.out
    rw [← hxs] at HWF' HSZ'
    have HWX := Aside0.mk HWF'
    have HSX := Aside0.mk HSZ'
    clear hxs HWF' HSZ' HWF HSZ hix
    go_region_held3 (fun X => X.cell? ⟨B, 0, none⟩ = some (.string (nameAt k)) ∧ X.cell? ⟨w.heap.size, 3, none⟩ = some (.slice A l.length c)) (first | go_keep | exact ⟨pw_cell_below HB10.out (pw_cell_below HB9.out rn), pw_cell_below HB10.out (pw_cell_below HB9.out il)⟩ | exact ⟨pw_cell_below HB9.out rn, pw_cell_below HB9.out il⟩)
      (first
        | (refine Kd.R_append_rows_step (Kd.int .i64) (w0 := wc) wc.heap.size (by rfl) (.tmp 50) (.tmp 52) 26 3 (.int .i64 0) 8 (by rfl) Tryd.underlying26 info3 (by rfl) (by decide) (by omega) v6 [a] l A l.length c (fun _ => True) (fun _ => False) (by rfl) (by rfl) hod (Kd.C_below HR.out (HI.out.2.2.trans (hbd.mono HI.out.2.2.size))) (fun _ _ h => h) (fun _ h => h.elim) (fun _ _ => trivial) hbd hbd.size (by first | (simp; done) | (simp; omega)) ?_; intro v9 w9 ho9 hb9 _ _; rw [← HXS.out] at ho9; obtain ⟨A9, c9, rfl, hc9, hC9⟩ := Kd.R_reads ho9; have HB9 := Aside0.mk hb9; have HC9 := Aside0.mk hC9; clear ho9 hb9 hC9)
        | (go_at_call 37; refine (line_any A9 c9 xs (nameAt k) _ HC9.out HWX.out (HL.out.below (HI.out.2.2.trans (HB9.out.mono HI.out.2.2.size))) HSX.out).mono ?_; rintro e w10 ⟨rfl, hb10⟩; have HB10 := Aside0.mk hb10; clear hb10))
    go_wp2_with (fail)
    go_ret2
    have hbb := below_then HI.out.2.2 HI.out.2.2.size HB9.out
    exact ⟨by rw [HXS.out]; rfl, below_then hbb hbb.size HB10.out⟩

end Go.Proofs.YtfkfgjmhcfagkaaDoor.Given
