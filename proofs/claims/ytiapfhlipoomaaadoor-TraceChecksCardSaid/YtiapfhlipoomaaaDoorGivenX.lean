/- The program's struct types, opened. -/
import Derived.Test.YtiapfhlipoomaaaDoorOpens
import Derived.Test.YtiapfhlipoomaaaDoorPrint0
import Derived.Below
import Derived.Test.YtiapfhlipoomaaaDoorPlainA
namespace Go.Proofs.YtiapfhlipoomaaaDoor.Given
open Go.RowKit Go.Proofs.YtiapfhlipoomaaaDoorW.PrintWords Go.Proofs.YtiapfhlipoomaaaDoor.Print
set_option linter.unusedVariables false
set_option linter.unusedSimpArgs false

theorem len8 {α : Type} {l : List α} (h : l.length = 8) : ∃ a b c d e f g i, l = [a, b, c, d, e, f, g, i] := by
  match l, h with
  | [a, b, c, d, e, f, g, i], _ => exact ⟨a, b, c, d, e, f, g, i, rfl⟩
def wfN (n : Int) : Prop := (Lit.int .i64 n).wf = true
def wfL (l : List Int) : Prop := (∀ n ∈ l, wfN n) ∧ l.length * 8 ≤ 140737488351232
theorem wfN_range {n : Int} (h : wfN n) : -9223372036854775808 ≤ n ∧ n ≤ 9223372036854775807 := by
  have h' : (decide (-9223372036854775808 ≤ n) && decide (n ≤ 9223372036854775807)) = true := h
  simpa using h'
theorem opens3 (W : World) : Opens.Opens Tryd.prog W 3 (Kd.int .i64) wfN := Opens.opens_int Tryd.underlying3
theorem opens22 (W : World) : Opens.Opens Tryd.prog W 22 (Kd.slice 3 (Kd.int .i64)) wfL := Opens.opens_slice Tryd.underlying22 (by kernel_rfl) (by kernel_rfl) (opens3 W)
theorem opens24 (W : World) : Opens.Opens Tryd.prog W 24 k24 (fun x => (wfN) x.f0 ∧ (wfN) x.f1 ∧ (wfN) x.f2 ∧ (wfN) x.f3 ∧ (wfN) x.f4 ∧ (wfN) x.f5 ∧ (wfN) x.f6 ∧ (wfL) x.f7) := by
  intro H enc base sp held fuel cs x h hw
  obtain ⟨xs, n, _, rfl, hl, hlen, hf⟩ := DataW.trod_struct Tryd.underlying24 h
  rw [show Tryd.prog.cellsOf 24 = 8 by kernel_rfl] at hl
  obtain ⟨c0, c1, c2, c3, c4, c5, c6, c7, rfl⟩ := len8 hl
  obtain ⟨y0, y1, y2, y3, y4, y5, y6, y7, rfl⟩ := len8 (show xs.length = 8 from hlen)
  have h0 : DataW.trod enc Tryd.prog W base sp held n 3 [c0] = some y0 := by
        have := hf 0 _ rfl
        simpa [show Tryd.prog.cellsOf 3 = 1 by kernel_rfl] using this
  have h1 : DataW.trod enc Tryd.prog W base sp held n 3 [c1] = some y1 := by
        have := hf 1 _ rfl
        simpa [show Tryd.prog.cellsOf 3 = 1 by kernel_rfl] using this
  have h2 : DataW.trod enc Tryd.prog W base sp held n 3 [c2] = some y2 := by
        have := hf 2 _ rfl
        simpa [show Tryd.prog.cellsOf 3 = 1 by kernel_rfl] using this
  have h3 : DataW.trod enc Tryd.prog W base sp held n 3 [c3] = some y3 := by
        have := hf 3 _ rfl
        simpa [show Tryd.prog.cellsOf 3 = 1 by kernel_rfl] using this
  have h4 : DataW.trod enc Tryd.prog W base sp held n 3 [c4] = some y4 := by
        have := hf 4 _ rfl
        simpa [show Tryd.prog.cellsOf 3 = 1 by kernel_rfl] using this
  have h5 : DataW.trod enc Tryd.prog W base sp held n 3 [c5] = some y5 := by
        have := hf 5 _ rfl
        simpa [show Tryd.prog.cellsOf 3 = 1 by kernel_rfl] using this
  have h6 : DataW.trod enc Tryd.prog W base sp held n 3 [c6] = some y6 := by
        have := hf 6 _ rfl
        simpa [show Tryd.prog.cellsOf 3 = 1 by kernel_rfl] using this
  have h7 : DataW.trod enc Tryd.prog W base sp held n 22 [c7] = some y7 := by
        have := hf 7 _ rfl
        simpa [show Tryd.prog.cellsOf 22 = 1 by kernel_rfl] using this
  have hw' : ∀ k, k ∈ y0.1.weights Tryd.prog 3 ∨ k ∈ y1.1.weights Tryd.prog 3 ∨ k ∈ y2.1.weights Tryd.prog 3 ∨ k ∈ y3.1.weights Tryd.prog 3 ∨ k ∈ y4.1.weights Tryd.prog 3 ∨ k ∈ y5.1.weights Tryd.prog 3 ∨ k ∈ y6.1.weights Tryd.prog 3 ∨ k ∈ y7.1.weights Tryd.prog 22 → k ≤ reachBytes := by
        intro k hk
        refine hw k ?_
        unfold DataW.weights
        rw [Tryd.underlying24]
        simp only [List.map_cons, List.map_nil, DataW.weightsEach, List.mem_append, List.not_mem_nil, or_false]
        exact hk
  obtain ⟨a0, k0, w0⟩ := opens3 W H enc base sp held n _ _ h0 (fun k hk => hw' k (Or.inl hk))
  obtain ⟨a1, k1, w1⟩ := opens3 W H enc base sp held n _ _ h1 (fun k hk => hw' k (Or.inr (Or.inl hk)))
  obtain ⟨a2, k2, w2⟩ := opens3 W H enc base sp held n _ _ h2 (fun k hk => hw' k (Or.inr (Or.inr (Or.inl hk))))
  obtain ⟨a3, k3, w3⟩ := opens3 W H enc base sp held n _ _ h3 (fun k hk => hw' k (Or.inr (Or.inr (Or.inr (Or.inl hk)))))
  obtain ⟨a4, k4, w4⟩ := opens3 W H enc base sp held n _ _ h4 (fun k hk => hw' k (Or.inr (Or.inr (Or.inr (Or.inr (Or.inl hk))))))
  obtain ⟨a5, k5, w5⟩ := opens3 W H enc base sp held n _ _ h5 (fun k hk => hw' k (Or.inr (Or.inr (Or.inr (Or.inr (Or.inr (Or.inl hk)))))))
  obtain ⟨a6, k6, w6⟩ := opens3 W H enc base sp held n _ _ h6 (fun k hk => hw' k (Or.inr (Or.inr (Or.inr (Or.inr (Or.inr (Or.inr (Or.inl hk))))))))
  obtain ⟨a7, k7, w7⟩ := opens22 W H enc base sp held n _ _ h7 (fun k hk => hw' k (Or.inr (Or.inr (Or.inr (Or.inr (Or.inr (Or.inr (Or.inr (hk)))))))))
  refine ⟨⟨a0, a1, a2, a3, a4, a5, a6, a7⟩, ?_, w0, w1, w2, w3, w4, w5, w6, w7⟩
  exact ⟨[c0], [c1, c2, c3, c4, c5, c6, c7], rfl, k0, ⟨[c1], [c2, c3, c4, c5, c6, c7], rfl, k1, ⟨[c2], [c3, c4, c5, c6, c7], rfl, k2, ⟨[c3], [c4, c5, c6, c7], rfl, k3, ⟨[c4], [c5, c6, c7], rfl, k4, ⟨[c5], [c6, c7], rfl, k5, ⟨[c6], [c7], rfl, k6, k7⟩⟩⟩⟩⟩⟩⟩
def wfE (x : S24) : Prop := wfN x.f0 ∧ wfN x.f1 ∧ wfN x.f2 ∧ wfN x.f3 ∧ wfN x.f4 ∧ wfN x.f5 ∧ wfN x.f6 ∧ wfL x.f7
def wfEs (l : List S24) : Prop := (∀ x ∈ l, wfE x) ∧ l.length * 80 ≤ 140737488351232
theorem opens29 (W : World) : Opens.Opens Tryd.prog W 29 (Kd.slice 24 k24) wfEs := Opens.opens_slice Tryd.underlying29 (by kernel_rfl) (by kernel_rfl) (opens24 W)
theorem evs_rng {l : List S24} (h : wfEs l) : (∀ x ∈ l, rngX x) ∧ l.length ≤ 4611686018427387904 ∧ ∀ x ∈ l, x.f7.length ≤ 4611686018427387904 := by
  refine ⟨fun x hx => ?_, ?_, fun x hx => ?_⟩
  · obtain ⟨h0, h1, h2, h3, h4, h5, h6, h7, _⟩ := h.1 x hx
    refine ⟨fun o ho => ?_, fun n hn => wfN_range (h7 n hn)⟩
    match o, ho with
    | 0, _ => exact wfN_range h0
    | 1, _ => exact wfN_range h1
    | 2, _ => exact wfN_range h2
    | 3, _ => exact wfN_range h3
    | 4, _ => exact wfN_range h4
    | 5, _ => exact wfN_range h5
    | 6, _ => exact wfN_range h6
  · have := h.2; omega
  · have := (h.1 x hx).2.2.2.2.2.2.2.2; omega
end Go.Proofs.YtiapfhlipoomaaaDoor.Given
