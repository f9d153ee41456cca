import Derived.Test.YtmingnhhmaclaaaGivenS
import Derived.Lib.SlBytesConst
namespace Go.Proofs.Ytmingnhhmaclaaa.Given
open Go.RowKit Go.Proofs.YtmingnhhmaclaaaW.PrintWords Go.Proofs.Ytmingnhhmaclaaa.Print

def ex1 : List Int := [120, 60, 45, 49, 32, 35, 32, 97]
def ex2 : List Int := [97, 32, 49, 50, 98]
theorem scan_ex1 : scanGo ex1 (ex1.length + 1) 0 [] = ([⟨1, 0, 1, 0⟩, ⟨65, 1, 2, 0⟩, ⟨2, 3, 1, 1⟩], 0, 0) := by kernel_rfl
theorem scan_ex2 : scanGo ex2 (ex2.length + 1) 0 [] = ([], 2, 12) := by kernel_rfl
theorem kind_ex : kindOf ⟨#[60, 45, 61]⟩ = 66 := by decide +kernel
theorem text_ex : textOf 30 = ⟨#[119, 104, 105, 108, 101]⟩ := by decide +kernel

/-- A row of bytes that the call has just made of a constant. -/
theorem reads_const (w : World) (xs : List Int) (f : Nat × Nat) (hl : xs.length ≤ 65536) : Kd.C (Kd.int .u8) (w.alloc (.cells (xs.map (Value.int .u8)).toArray 5 f)) (some ⟨w.heap.size, 0, none⟩) xs.length xs := by
  refine ⟨rfl, by omega, fun _ => ⟨_, rfl, fun j p hj => ⟨[.int .u8 p], rfl, rfl, fun i u hu => ?_⟩⟩⟩
  have hi : i = 0 := by
    have := (List.getElem?_eq_some_iff.1 hu).1
    simpa using this
  subst hi
  obtain rfl : Value.int .u8 p = u := by simpa using hu
  have ha : (⟨w.heap.size, 0, none⟩ : Addr).add (j * 1 + 0) = ⟨w.heap.size, j, none⟩ := by unfold Addr.add; split <;> simp_all
  show World.cell? _ ((⟨w.heap.size, 0, none⟩ : Addr).add (j * 1 + 0)) = _
  rw [ha, cell_of_row _ _ _ _ _ _ (heap_alloc_new _ _)]
  simp [hj]

set_option maxHeartbeats 1000000 in
theorem shown_any (w : World) : Calls Try.prog 8 #[] w fun e w' => e = .returned (.bool true) ∧ Below w.heap.size w w' := by
  have kc := fun (w : World) (C : Array Value) (n c : Nat) => Lib.run_convert_bytes_const (P := Try.prog) w 26 5 C n c Try.underlying26 Try.underlying5
  have H1 : ∀ W : World, Aside0 (Calls Try.prog 13 #[.slice (some ⟨W.heap.size, 0, none⟩) 8 8] (W.alloc (.cells #[.int .u8 120, .int .u8 60, .int .u8 45, .int .u8 49, .int .u8 32, .int .u8 35, .int .u8 32, .int .u8 97] 5 (8, 9))) (ScanEnd ([⟨1, 0, 1, 0⟩, ⟨65, 1, 2, 0⟩, ⟨2, 3, 1, 1⟩], 0, 0) (W.alloc (.cells #[.int .u8 120, .int .u8 60, .int .u8 45, .int .u8 49, .int .u8 32, .int .u8 35, .int .u8 32, .int .u8 97] 5 (8, 9))))) :=
    fun W => ⟨by rw [← scan_ex1]; exact scan_any (some ⟨W.heap.size, 0, none⟩) 8 ex1 _ (reads_const W ex1 (8, 9) (by decide)) (by decide) (by decide)⟩
  have H2 : ∀ W : World, Aside0 (Calls Try.prog 13 #[.slice (some ⟨W.heap.size, 0, none⟩) 5 5] (W.alloc (.cells #[.int .u8 97, .int .u8 32, .int .u8 49, .int .u8 50, .int .u8 98] 5 (5, 6))) (ScanEnd ([], 2, 12) (W.alloc (.cells #[.int .u8 97, .int .u8 32, .int .u8 49, .int .u8 50, .int .u8 98] 5 (5, 6))))) :=
    fun W => ⟨by rw [← scan_ex2]; exact scan_any (some ⟨W.heap.size, 0, none⟩) 5 ex2 _ (reads_const W ex2 (5, 6) (by decide)) (by decide) (by decide)⟩
  have kc2 : ∀ (W : World) (o : Obj) (C : Array Value) (n c : Nat), (convert 26 26 (.slice (some ⟨W.heap.size + 1, 0, none⟩) n c)).run Try.prog ((W.alloc o).alloc (.cells C 5)) = .ok (.slice (some ⟨W.heap.size + 1, 0, none⟩) n c) ((W.alloc o).alloc (.cells C 5 (C.size, C.size + 1))) := fun W o C n c => by
    have h := kc (W.alloc o) C n c
    rw [World.size_alloc] at h
    exact h
  have H2' : ∀ (W : World) (o : Obj), Aside0 (Calls Try.prog 13 #[.slice (some ⟨W.heap.size + 1, 0, none⟩) 5 5] ((W.alloc o).alloc (.cells #[.int .u8 97, .int .u8 32, .int .u8 49, .int .u8 50, .int .u8 98] 5 (5, 6))) (ScanEnd ([], 2, 12) ((W.alloc o).alloc (.cells #[.int .u8 97, .int .u8 32, .int .u8 49, .int .u8 50, .int .u8 98] 5 (5, 6))))) := fun W o => ⟨by
    have h := (H2 (W.alloc o)).out
    rw [World.size_alloc] at h
    exact h⟩
  have HT : ∀ W : World, Aside0 (Calls Try.prog 9 #[.int .i64 30] W fun e w' => e = .returned (.string ⟨#[119, 104, 105, 108, 101]⟩) ∧ Below W.heap.size W w') := fun W => ⟨by rw [← text_ex]; exact text_any 30 W⟩
  have HK : ∀ W : World, Aside0 (Calls Try.prog 10 #[.string ⟨#[60, 45, 61]⟩] W fun e w' => e = .returned (.int .i64 66) ∧ Below W.heap.size W w') := fun W => ⟨by rw [← kind_ex]; exact kind_any _ W⟩
  go_enter Try.func8, Try.ntmps8
  go_wp2_with (fail)
  refine (H1 _).out.mono ?_
  rintro e W1 ⟨v0, rfl, hR1, hb1⟩
  obtain ⟨A1, c1, rfl, hc1, hC1⟩ := Kd.R_reads hR1
  have HB1 : Aside0 (Below w.heap.size w W1) := ⟨below_then (below_alloc (Below.refl _ _) _) (by simp) hb1⟩
  obtain ⟨ad, e1, x0, x1, x2, x3⟩ := at_T40 hC1 1 (by decide) (by decide)
  obtain ⟨ad', e2, _, _, _, y3⟩ := at_T40 hC1 2 (by decide) (by decide)
  subst e1
  cases e2
  rw [show ad.add ((1 : Int).toNat * 4) = ⟨ad.block, ad.off + 4, none⟩ by simp [Addr.add]] at x0 x1 x2 x3
  rw [show ad.add ((2 : Int).toNat * 4) = ⟨ad.block, ad.off + 8, none⟩ by simp [Addr.add]] at y3
  have X0 := Aside0.mk x0
  have X1 := Aside0.mk x1
  have X2 := Aside0.mk x2
  have X3 := Aside0.mk x3
  have Y3 := Aside0.mk y3
  clear x0 x1 x2 x3 y3 hR1 hb1 hC1
  go_wp2_with (fail)
  refine (H2' _ _).out.mono ?_
  rintro e W2 ⟨v2, rfl, hR2, hb2⟩
  have HB2 : Aside0 (Below w.heap.size w W2) := ⟨below_then (below_alloc (below_alloc HB1.out _) _) (by have := HB1.out.size; simp; omega) hb2⟩
  have hk : ∀ p v, W1.cell? p = some v → W2.cell? p = some v := fun p v h => (hb2.cell (World.block_lt_of_cell? _ _ (pw_cell_below (below_alloc (below_alloc (Below.refl _ W1) _) _) h))).trans (pw_cell_below (below_alloc (below_alloc (Below.refl _ W1) _) _) h)
  have hf0 : W2.heap[W1.heap.size]? = some (.cells #[.int .i64 0, .int .i64 0] 34 (0, 0)) := (hb2.block W1.heap.size (by simp; omega)).trans (heap_keep (heap_alloc_new W1 _) (below_alloc (Below.refl _ _) _))
  have HK2 := Aside0.mk hk
  have HF0 := Aside0.mk hf0
  clear hR2 hb2 hk hf0
  have hx0 : ∀ o : Obj, (W2.alloc o).cell? ⟨ad.block, ad.off + 4, none⟩ = some (.int .i64 65) := fun o => pw_cell_below (below_alloc (Below.refl _ W2) o) (HK2.out _ _ X0.out)
  have hx1 : ∀ o : Obj, (W2.alloc o).cell? ⟨ad.block, ad.off + 4 + 1, none⟩ = some (.int .i64 1) := fun o => pw_cell_below (below_alloc (Below.refl _ W2) o) (HK2.out _ _ X1.out)
  have hx2 : ∀ o : Obj, (W2.alloc o).cell? ⟨ad.block, ad.off + 4 + 2, none⟩ = some (.int .i64 2) := fun o => pw_cell_below (below_alloc (Below.refl _ W2) o) (HK2.out _ _ X2.out)
  have hx3 : ∀ o : Obj, (W2.alloc o).cell? ⟨ad.block, ad.off + 4 + 3, none⟩ = some (.int .i64 0) := fun o => pw_cell_below (below_alloc (Below.refl _ W2) o) (HK2.out _ _ X3.out)
  have hy3 : ∀ o : Obj, (W2.alloc o).cell? ⟨ad.block, ad.off + 8 + 3, none⟩ = some (.int .i64 1) := fun o => pw_cell_below (below_alloc (Below.refl _ W2) o) (HK2.out _ _ Y3.out)
  have hfc : ∀ o : Obj, (W2.alloc o).cell? ⟨W1.heap.size, 1, none⟩ = some (.int .i64 0) := fun o => pw_cell_below (below_alloc (Below.refl _ W2) o) ((cell_of_row W2 W1.heap.size 1 _ _ _ HF0.out).trans rfl)
  go_wp2_with (first | (go_at_call 9; refine (HT _).out.mono ?_; rintro e W3 ⟨rfl, hb3⟩) | (go_at_call 10; refine (HK _).out.mono ?_; rintro e W4 ⟨rfl, hb4⟩))
  go_ret
  have h5 := below_alloc HB2.out (.cells #[.int .i64 2, .int .i64 12] 34)
  have h6 := below_then h5 h5.size hb3
  exact ⟨rfl, below_then h6 h6.size hb4⟩
def squintlaw01_shown.f : Option Bool := some true
theorem squintlaw01_shown.calls (r : Bool) (w : World) (h : squintlaw01_shown.f = some r) : Calls Try.prog 8 #[] w fun e w' => e = .returned (.bool r) ∧ Below w.heap.size w w' := by
  injection h with h
  subst h
  exact shown_any w
end Go.Proofs.Ytmingnhhmaclaaa.Given
