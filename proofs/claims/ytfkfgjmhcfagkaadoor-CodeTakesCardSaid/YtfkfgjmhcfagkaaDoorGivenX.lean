/- The program's struct types, opened. -/
import Derived.Test.YtfkfgjmhcfagkaaDoorOpens
import Derived.Test.YtfkfgjmhcfagkaaDoorPrint0
import Derived.Below
namespace Go.Proofs.YtfkfgjmhcfagkaaDoor.Given
open Go.RowKit Go.Proofs.YtfkfgjmhcfagkaaDoorW.PrintWords Go.Proofs.YtfkfgjmhcfagkaaDoor.Print
set_option linter.unusedVariables false
set_option linter.unusedSimpArgs false

theorem len3 {α : Type} {l : List α} (h : l.length = 3) : ∃ a b c, l = [a, b, c] := by
  match l, h with
  | [a, b, c], _ => exact ⟨a, b, c, rfl⟩
theorem len4 {α : Type} {l : List α} (h : l.length = 4) : ∃ a b c d, l = [a, b, c, d] := by
  match l, h with
  | [a, b, c, d], _ => exact ⟨a, b, c, d, rfl⟩
theorem len5 {α : Type} {l : List α} (h : l.length = 5) : ∃ a b c d e, l = [a, b, c, d, e] := by
  match l, h with
  | [a, b, c, d, e], _ => exact ⟨a, b, c, d, e, rfl⟩
def wfN (n : Int) : Prop := (Lit.int .i64 n).wf = true
def wfL (l : List Int) : Prop := (∀ n ∈ l, wfN n) ∧ l.length * 8 ≤ 140737488351232
theorem wfN_range {n : Int} (h : wfN n) : -9223372036854775808 ≤ n ∧ n ≤ 9223372036854775807 := by
  have h' : (decide (-9223372036854775808 ≤ n) && decide (n ≤ 9223372036854775807)) = true := h
  simpa using h'
theorem opens3 (W : World) : Opens.Opens Tryd.prog W 3 (Kd.int .i64) wfN := Opens.opens_int Tryd.underlying3
theorem opens4 (W : World) : Opens.Opens Tryd.prog W 4 Kd.bool (fun _ => True) := Opens.opens_bool Tryd.underlying4
theorem opens26 (W : World) : Opens.Opens Tryd.prog W 26 (Kd.slice 3 (Kd.int .i64)) wfL := Opens.opens_slice Tryd.underlying26 (by kernel_rfl) (by kernel_rfl) (opens3 W)
theorem opens28 (W : World) : Opens.Opens Tryd.prog W 28 k28 (fun x => (wfN) x.f0 ∧ (wfN) x.f1 ∧ (wfN) x.f2 ∧ (wfL) x.f3) := by
  intro H enc base sp held fuel cs x h hw
  obtain ⟨xs, n, _, rfl, hl, hlen, hf⟩ := DataW.trod_struct Tryd.underlying28 h
  rw [show Tryd.prog.cellsOf 28 = 4 by kernel_rfl] at hl
  obtain ⟨c0, c1, c2, c3, rfl⟩ := len4 hl
  obtain ⟨y0, y1, y2, y3, rfl⟩ := len4 (show xs.length = 4 from hlen)
  have h0 : DataW.trod enc Tryd.prog W base sp held n 3 [c0] = some y0 := by
        have := hf 0 _ rfl
        simpa [show Tryd.prog.cellsOf 3 = 1 by kernel_rfl] using this
  have h1 : DataW.trod enc Tryd.prog W base sp held n 3 [c1] = some y1 := by
        have := hf 1 _ rfl
        simpa [show Tryd.prog.cellsOf 3 = 1 by kernel_rfl] using this
  have h2 : DataW.trod enc Tryd.prog W base sp held n 3 [c2] = some y2 := by
        have := hf 2 _ rfl
        simpa [show Tryd.prog.cellsOf 3 = 1 by kernel_rfl] using this
  have h3 : DataW.trod enc Tryd.prog W base sp held n 26 [c3] = some y3 := by
        have := hf 3 _ rfl
        simpa [show Tryd.prog.cellsOf 26 = 1 by kernel_rfl] using this
  have hw' : ∀ k, k ∈ y0.1.weights Tryd.prog 3 ∨ k ∈ y1.1.weights Tryd.prog 3 ∨ k ∈ y2.1.weights Tryd.prog 3 ∨ k ∈ y3.1.weights Tryd.prog 26 → k ≤ reachBytes := by
        intro k hk
        refine hw k ?_
        unfold DataW.weights
        rw [Tryd.underlying28]
        simp only [List.map_cons, List.map_nil, DataW.weightsEach, List.mem_append, List.not_mem_nil, or_false]
        exact hk
  obtain ⟨a0, k0, w0⟩ := opens3 W H enc base sp held n _ _ h0 (fun k hk => hw' k (Or.inl hk))
  obtain ⟨a1, k1, w1⟩ := opens3 W H enc base sp held n _ _ h1 (fun k hk => hw' k (Or.inr (Or.inl hk)))
  obtain ⟨a2, k2, w2⟩ := opens3 W H enc base sp held n _ _ h2 (fun k hk => hw' k (Or.inr (Or.inr (Or.inl hk))))
  obtain ⟨a3, k3, w3⟩ := opens26 W H enc base sp held n _ _ h3 (fun k hk => hw' k (Or.inr (Or.inr (Or.inr (hk)))))
  refine ⟨⟨a0, a1, a2, a3⟩, ?_, w0, w1, w2, w3⟩
  exact ⟨[c0], [c1, c2, c3], rfl, k0, ⟨[c1], [c2, c3], rfl, k1, ⟨[c2], [c3], rfl, k2, k3⟩⟩⟩
def wfI0 (x : S28) : Prop := wfN x.f0 ∧ wfN x.f1 ∧ wfN x.f2 ∧ wfL x.f3
def wfC (l : List S28) : Prop := (∀ x ∈ l, wfI0 x) ∧ l.length * 48 ≤ 140737488351232
theorem opens55 (W : World) : Opens.Opens Tryd.prog W 55 (Kd.slice 28 k28) wfC := Opens.opens_slice Tryd.underlying55 (by kernel_rfl) (by kernel_rfl) (opens28 W)
theorem opens57 (W : World) : Opens.Opens Tryd.prog W 57 k57 (fun x => (wfN) x.f0 ∧ (wfN) x.f1 ∧ (wfN) x.f2 ∧ (fun _ => True) x.f3 ∧ (wfC) x.f4) := by
  intro H enc base sp held fuel cs x h hw
  obtain ⟨xs, n, _, rfl, hl, hlen, hf⟩ := DataW.trod_struct Tryd.underlying57 h
  rw [show Tryd.prog.cellsOf 57 = 5 by kernel_rfl] at hl
  obtain ⟨c0, c1, c2, c3, c4, rfl⟩ := len5 hl
  obtain ⟨y0, y1, y2, y3, y4, rfl⟩ := len5 (show xs.length = 5 from hlen)
  have h0 : DataW.trod enc Tryd.prog W base sp held n 3 [c0] = some y0 := by
        have := hf 0 _ rfl
        simpa [show Tryd.prog.cellsOf 3 = 1 by kernel_rfl] using this
  have h1 : DataW.trod enc Tryd.prog W base sp held n 3 [c1] = some y1 := by
        have := hf 1 _ rfl
        simpa [show Tryd.prog.cellsOf 3 = 1 by kernel_rfl] using this
  have h2 : DataW.trod enc Tryd.prog W base sp held n 3 [c2] = some y2 := by
        have := hf 2 _ rfl
        simpa [show Tryd.prog.cellsOf 3 = 1 by kernel_rfl] using this
  have h3 : DataW.trod enc Tryd.prog W base sp held n 4 [c3] = some y3 := by
        have := hf 3 _ rfl
        simpa [show Tryd.prog.cellsOf 4 = 1 by kernel_rfl] using this
  have h4 : DataW.trod enc Tryd.prog W base sp held n 55 [c4] = some y4 := by
        have := hf 4 _ rfl
        simpa [show Tryd.prog.cellsOf 55 = 1 by kernel_rfl] using this
  have hw' : ∀ k, k ∈ y0.1.weights Tryd.prog 3 ∨ k ∈ y1.1.weights Tryd.prog 3 ∨ k ∈ y2.1.weights Tryd.prog 3 ∨ k ∈ y3.1.weights Tryd.prog 4 ∨ k ∈ y4.1.weights Tryd.prog 55 → k ≤ reachBytes := by
        intro k hk
        refine hw k ?_
        unfold DataW.weights
        rw [Tryd.underlying57]
        simp only [List.map_cons, List.map_nil, DataW.weightsEach, List.mem_append, List.not_mem_nil, or_false]
        exact hk
  obtain ⟨a0, k0, w0⟩ := opens3 W H enc base sp held n _ _ h0 (fun k hk => hw' k (Or.inl hk))
  obtain ⟨a1, k1, w1⟩ := opens3 W H enc base sp held n _ _ h1 (fun k hk => hw' k (Or.inr (Or.inl hk)))
  obtain ⟨a2, k2, w2⟩ := opens3 W H enc base sp held n _ _ h2 (fun k hk => hw' k (Or.inr (Or.inr (Or.inl hk))))
  obtain ⟨a3, k3, w3⟩ := opens4 W H enc base sp held n _ _ h3 (fun k hk => hw' k (Or.inr (Or.inr (Or.inr (Or.inl hk)))))
  obtain ⟨a4, k4, w4⟩ := opens55 W H enc base sp held n _ _ h4 (fun k hk => hw' k (Or.inr (Or.inr (Or.inr (Or.inr (hk))))))
  refine ⟨⟨a0, a1, a2, a3, a4⟩, ?_, w0, w1, w2, w3, w4⟩
  exact ⟨[c0], [c1, c2, c3, c4], rfl, k0, ⟨[c1], [c2, c3, c4], rfl, k1, ⟨[c2], [c3, c4], rfl, k2, ⟨[c3], [c4], rfl, k3, k4⟩⟩⟩⟩
def wfP0 (x : S57) : Prop := wfN x.f0 ∧ wfN x.f1 ∧ wfN x.f2 ∧ True ∧ wfC x.f4
def wfPs (l : List S57) : Prop := (∀ x ∈ l, wfP0 x) ∧ l.length * 56 ≤ 140737488351232
theorem opens33 (W : World) : Opens.Opens Tryd.prog W 33 (Kd.slice 57 k57) wfPs := Opens.opens_slice Tryd.underlying33 (by kernel_rfl) (by kernel_rfl) (opens57 W)
theorem opens54 (W : World) : Opens.Opens Tryd.prog W 54 k54 (fun x => (wfN) x.f0 ∧ (wfL) x.f1 ∧ (fun _ => True) x.f2) := by
  intro H enc base sp held fuel cs x h hw
  obtain ⟨xs, n, _, rfl, hl, hlen, hf⟩ := DataW.trod_struct Tryd.underlying54 h
  rw [show Tryd.prog.cellsOf 54 = 3 by kernel_rfl] at hl
  obtain ⟨c0, c1, c2, rfl⟩ := len3 hl
  obtain ⟨y0, y1, y2, rfl⟩ := len3 (show xs.length = 3 from hlen)
  have h0 : DataW.trod enc Tryd.prog W base sp held n 3 [c0] = some y0 := by
        have := hf 0 _ rfl
        simpa [show Tryd.prog.cellsOf 3 = 1 by kernel_rfl] using this
  have h1 : DataW.trod enc Tryd.prog W base sp held n 26 [c1] = some y1 := by
        have := hf 1 _ rfl
        simpa [show Tryd.prog.cellsOf 26 = 1 by kernel_rfl] using this
  have h2 : DataW.trod enc Tryd.prog W base sp held n 4 [c2] = some y2 := by
        have := hf 2 _ rfl
        simpa [show Tryd.prog.cellsOf 4 = 1 by kernel_rfl] using this
  have hw' : ∀ k, k ∈ y0.1.weights Tryd.prog 3 ∨ k ∈ y1.1.weights Tryd.prog 26 ∨ k ∈ y2.1.weights Tryd.prog 4 → k ≤ reachBytes := by
        intro k hk
        refine hw k ?_
        unfold DataW.weights
        rw [Tryd.underlying54]
        simp only [List.map_cons, List.map_nil, DataW.weightsEach, List.mem_append, List.not_mem_nil, or_false]
        exact hk
  obtain ⟨a0, k0, w0⟩ := opens3 W H enc base sp held n _ _ h0 (fun k hk => hw' k (Or.inl hk))
  obtain ⟨a1, k1, w1⟩ := opens26 W H enc base sp held n _ _ h1 (fun k hk => hw' k (Or.inr (Or.inl hk)))
  obtain ⟨a2, k2, w2⟩ := opens4 W H enc base sp held n _ _ h2 (fun k hk => hw' k (Or.inr (Or.inr (hk))))
  refine ⟨⟨a0, a1, a2⟩, ?_, w0, w1, w2⟩
  exact ⟨[c0], [c1, c2], rfl, k0, ⟨[c1], [c2], rfl, k1, k2⟩⟩
def wfT0 (x : S54) : Prop := wfN x.f0 ∧ wfL x.f1 ∧ True
def wfTs (l : List S54) : Prop := (∀ x ∈ l, wfT0 x) ∧ l.length * 40 ≤ 140737488351232
theorem opens34 (W : World) : Opens.Opens Tryd.prog W 34 (Kd.slice 54 k54) wfTs := Opens.opens_slice Tryd.underlying34 (by kernel_rfl) (by kernel_rfl) (opens54 W)
end Go.Proofs.YtfkfgjmhcfagkaaDoor.Given
