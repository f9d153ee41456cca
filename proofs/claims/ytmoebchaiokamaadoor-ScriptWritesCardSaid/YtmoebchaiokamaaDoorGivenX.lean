/- The program's struct types, opened. -/
import Derived.Test.YtmoebchaiokamaaDoorOpens
import Derived.Test.YtmoebchaiokamaaDoorGivenO
import Derived.Below
namespace Go.Proofs.YtmoebchaiokamaaDoor.Given
open Go.RowKit Go.Proofs.YtmoebchaiokamaaDoorW.PrintWords Go.Proofs.YtmoebchaiokamaaDoorW.PrintLast Go.Proofs.YtmoebchaiokamaaDoorW.PrintMore Go.Proofs.YtmoebchaiokamaaDoor.Print
set_option linter.unusedVariables false
set_option linter.unusedSimpArgs false
theorem len3 {α : Type} {l : List α} (h : l.length = 3) : ∃ a b c, l = [a, b, c] := by
  match l, h with
  | [a, b, c], _ => exact ⟨a, b, c, rfl⟩
theorem len7 {α : Type} {l : List α} (h : l.length = 7) : ∃ a b c d e f g, l = [a, b, c, d, e, f, g] := by
  match l, h with
  | [a, b, c, d, e, f, g], _ => exact ⟨a, b, c, d, e, f, g, rfl⟩
theorem len9 {α : Type} {l : List α} (h : l.length = 9) : ∃ a b c d e f g i j, l = [a, b, c, d, e, f, g, i, j] := by
  match l, h with
  | [a, b, c, d, e, f, g, i, j], _ => exact ⟨a, b, c, d, e, f, g, i, j, rfl⟩
def wfN (n : Int) : Prop := (Lit.int .i64 n).wf = true
theorem wfN_range {n : Int} (h : wfN n) : okN n := by
  have h' : (decide (-9223372036854775808 ≤ n) && decide (n ≤ 9223372036854775807)) = true := h
  unfold okN
  simpa using h'
def k23 : Kd Lim := Kd.iso (Kd.pair (Kd.int .i64) (Kd.pair (Kd.int .i64) (Kd.pair (Kd.int .i64) (Kd.pair (Kd.int .i64) (Kd.pair (Kd.int .i64) (Kd.pair (Kd.int .i64) (Kd.int .i64))))))) (fun x : Lim => (x.f0, x.f1, x.f2, x.f3, x.f4, x.f5, x.f6))
theorem k23_open {w : World} {x : Lim} {cs : List Value} (h : k23.K w x cs) : cs = [.int .i64 x.f0, .int .i64 x.f1, .int .i64 x.f2, .int .i64 x.f3, .int .i64 x.f4, .int .i64 x.f5, .int .i64 x.f6] := by
  obtain ⟨_, _, rfl, rfl, ⟨_, _, rfl, rfl, ⟨_, _, rfl, rfl, ⟨_, _, rfl, rfl, ⟨_, _, rfl, rfl, ⟨_, _, rfl, rfl, rfl⟩⟩⟩⟩⟩⟩ := h
  exact rfl
theorem opens3 (W : World) : Opens.Opens Tryd.prog W 3 (Kd.int .i64) wfN := Opens.opens_int Tryd.underlying3
theorem opens29 (W : World) : Opens.Opens Tryd.prog W 29 k29 (fun x => (wfN) x.f0 ∧ (wfN) x.f1 ∧ (wfN) x.f2) := by
  intro H enc base sp held fuel cs x h hw
  obtain ⟨xs, n, _, rfl, hl, hlen, hf⟩ := DataW.trod_struct Tryd.underlying29 h
  rw [show Tryd.prog.cellsOf 29 = 3 by kernel_rfl] at hl
  obtain ⟨c0, c1, c2, rfl⟩ := len3 hl
  obtain ⟨y0, y1, y2, rfl⟩ := len3 (show xs.length = 3 from hlen)
  have h0 : DataW.trod enc Tryd.prog W base sp held n 3 [c0] = some y0 := by
        have := hf 0 _ rfl
        simpa [show Tryd.prog.cellsOf 3 = 1 by kernel_rfl] using this
  have h1 : DataW.trod enc Tryd.prog W base sp held n 3 [c1] = some y1 := by
        have := hf 1 _ rfl
        simpa [show Tryd.prog.cellsOf 3 = 1 by kernel_rfl] using this
  have h2 : DataW.trod enc Tryd.prog W base sp held n 3 [c2] = some y2 := by
        have := hf 2 _ rfl
        simpa [show Tryd.prog.cellsOf 3 = 1 by kernel_rfl] using this
  have hw' : ∀ k, k ∈ y0.1.weights Tryd.prog 3 ∨ k ∈ y1.1.weights Tryd.prog 3 ∨ k ∈ y2.1.weights Tryd.prog 3 → k ≤ reachBytes := by
        intro k hk
        refine hw k ?_
        unfold DataW.weights
        rw [Tryd.underlying29]
        simp only [List.map_cons, List.map_nil, DataW.weightsEach, List.mem_append, List.not_mem_nil, or_false]
        exact hk
  obtain ⟨a0, k0, w0⟩ := opens3 W H enc base sp held n _ _ h0 (fun k hk => hw' k (Or.inl hk))
  obtain ⟨a1, k1, w1⟩ := opens3 W H enc base sp held n _ _ h1 (fun k hk => hw' k (Or.inr (Or.inl hk)))
  obtain ⟨a2, k2, w2⟩ := opens3 W H enc base sp held n _ _ h2 (fun k hk => hw' k (Or.inr (Or.inr (hk))))
  refine ⟨⟨a0, a1, a2⟩, ?_, w0, w1, w2⟩
  exact ⟨[c0], [c1, c2], rfl, k0, ⟨[c1], [c2], rfl, k1, k2⟩⟩
theorem opens23 (W : World) : Opens.Opens Tryd.prog W 23 k23 (fun x => (wfN) x.f0 ∧ (wfN) x.f1 ∧ (wfN) x.f2 ∧ (wfN) x.f3 ∧ (wfN) x.f4 ∧ (wfN) x.f5 ∧ (wfN) x.f6) := by
  intro H enc base sp held fuel cs x h hw
  obtain ⟨xs, n, _, rfl, hl, hlen, hf⟩ := DataW.trod_struct Tryd.underlying23 h
  rw [show Tryd.prog.cellsOf 23 = 7 by kernel_rfl] at hl
  obtain ⟨c0, c1, c2, c3, c4, c5, c6, rfl⟩ := len7 hl
  obtain ⟨y0, y1, y2, y3, y4, y5, y6, rfl⟩ := len7 (show xs.length = 7 from hlen)
  have h0 : DataW.trod enc Tryd.prog W base sp held n 3 [c0] = some y0 := by
        have := hf 0 _ rfl
        simpa [show Tryd.prog.cellsOf 3 = 1 by kernel_rfl] using this
  have h1 : DataW.trod enc Tryd.prog W base sp held n 3 [c1] = some y1 := by
        have := hf 1 _ rfl
        simpa [show Tryd.prog.cellsOf 3 = 1 by kernel_rfl] using this
  have h2 : DataW.trod enc Tryd.prog W base sp held n 3 [c2] = some y2 := by
        have := hf 2 _ rfl
        simpa [show Tryd.prog.cellsOf 3 = 1 by kernel_rfl] using this
  have h3 : DataW.trod enc Tryd.prog W base sp held n 3 [c3] = some y3 := by
        have := hf 3 _ rfl
        simpa [show Tryd.prog.cellsOf 3 = 1 by kernel_rfl] using this
  have h4 : DataW.trod enc Tryd.prog W base sp held n 3 [c4] = some y4 := by
        have := hf 4 _ rfl
        simpa [show Tryd.prog.cellsOf 3 = 1 by kernel_rfl] using this
  have h5 : DataW.trod enc Tryd.prog W base sp held n 3 [c5] = some y5 := by
        have := hf 5 _ rfl
        simpa [show Tryd.prog.cellsOf 3 = 1 by kernel_rfl] using this
  have h6 : DataW.trod enc Tryd.prog W base sp held n 3 [c6] = some y6 := by
        have := hf 6 _ rfl
        simpa [show Tryd.prog.cellsOf 3 = 1 by kernel_rfl] using this
  have hw' : ∀ k, k ∈ y0.1.weights Tryd.prog 3 ∨ k ∈ y1.1.weights Tryd.prog 3 ∨ k ∈ y2.1.weights Tryd.prog 3 ∨ k ∈ y3.1.weights Tryd.prog 3 ∨ k ∈ y4.1.weights Tryd.prog 3 ∨ k ∈ y5.1.weights Tryd.prog 3 ∨ k ∈ y6.1.weights Tryd.prog 3 → k ≤ reachBytes := by
        intro k hk
        refine hw k ?_
        unfold DataW.weights
        rw [Tryd.underlying23]
        simp only [List.map_cons, List.map_nil, DataW.weightsEach, List.mem_append, List.not_mem_nil, or_false]
        exact hk
  obtain ⟨a0, k0, w0⟩ := opens3 W H enc base sp held n _ _ h0 (fun k hk => hw' k (Or.inl hk))
  obtain ⟨a1, k1, w1⟩ := opens3 W H enc base sp held n _ _ h1 (fun k hk => hw' k (Or.inr (Or.inl hk)))
  obtain ⟨a2, k2, w2⟩ := opens3 W H enc base sp held n _ _ h2 (fun k hk => hw' k (Or.inr (Or.inr (Or.inl hk))))
  obtain ⟨a3, k3, w3⟩ := opens3 W H enc base sp held n _ _ h3 (fun k hk => hw' k (Or.inr (Or.inr (Or.inr (Or.inl hk)))))
  obtain ⟨a4, k4, w4⟩ := opens3 W H enc base sp held n _ _ h4 (fun k hk => hw' k (Or.inr (Or.inr (Or.inr (Or.inr (Or.inl hk))))))
  obtain ⟨a5, k5, w5⟩ := opens3 W H enc base sp held n _ _ h5 (fun k hk => hw' k (Or.inr (Or.inr (Or.inr (Or.inr (Or.inr (Or.inl hk)))))))
  obtain ⟨a6, k6, w6⟩ := opens3 W H enc base sp held n _ _ h6 (fun k hk => hw' k (Or.inr (Or.inr (Or.inr (Or.inr (Or.inr (Or.inr (hk))))))))
  refine ⟨⟨a0, a1, a2, a3, a4, a5, a6⟩, ?_, w0, w1, w2, w3, w4, w5, w6⟩
  exact ⟨[c0], [c1, c2, c3, c4, c5, c6], rfl, k0, ⟨[c1], [c2, c3, c4, c5, c6], rfl, k1, ⟨[c2], [c3, c4, c5, c6], rfl, k2, ⟨[c3], [c4, c5, c6], rfl, k3, ⟨[c4], [c5, c6], rfl, k4, ⟨[c5], [c6], rfl, k5, k6⟩⟩⟩⟩⟩⟩
def wfP (x : S29) : Prop := wfN x.f0 ∧ wfN x.f1 ∧ wfN x.f2
def wfPs (l : List S29) : Prop := (∀ x ∈ l, wfP x) ∧ l.length * 24 ≤ 140737488351232
theorem opens24 (W : World) : Opens.Opens Tryd.prog W 24 (Kd.slice 29 k29) wfPs := Opens.opens_slice Tryd.underlying24 (by kernel_rfl) (by kernel_rfl) (opens29 W)
theorem opens26 {W : World} {H : Type} {enc : TypeId × Value → H} {base : Nat} {sp : Nat → Bool} {held : Bool} {fuel : Nat} {cs : List Value} {x : DataW H × List MemPlace} (h : DataW.trod enc Tryd.prog W base sp held fuel 26 cs = some x) (hw : ∀ k, k ∈ x.1.weights Tryd.prog 26 → k ≤ reachBytes) :
    ∃ (s : Scr) (A : Option Addr) (c : Nat), cs = [.int .i64 s.lim.f0, .int .i64 s.lim.f1, .int .i64 s.lim.f2, .int .i64 s.lim.f3, .int .i64 s.lim.f4, .int .i64 s.lim.f5, .int .i64 s.lim.f6, .bool s.reap, .slice A s.picks.length c] ∧ Kd.C k29 W A s.picks.length s.picks ∧ s.picks.length ≤ c ∧ rngS s ∧ s.picks.length * 24 ≤ 140737488351232 := by
  obtain ⟨xs, n, _, rfl, hl, hlen, hf⟩ := DataW.trod_struct Tryd.underlying26 h
  rw [show Tryd.prog.cellsOf 26 = 9 by kernel_rfl] at hl
  obtain ⟨c0, c1, c2, c3, c4, c5, c6, c7, c8, rfl⟩ := len9 hl
  obtain ⟨y0, y1, y2, rfl⟩ := len3 (show xs.length = 3 from hlen)
  have h0 : DataW.trod enc Tryd.prog W base sp held n 23 [c0, c1, c2, c3, c4, c5, c6] = some y0 := by
    have := hf 0 _ rfl
    simpa [show Tryd.prog.cellsOf 23 = 7 by kernel_rfl] using this
  have h1 : DataW.trod enc Tryd.prog W base sp held n 4 [c7] = some y1 := by
    have := hf 1 _ rfl
    simpa [show Tryd.prog.cellsOf 4 = 1 by kernel_rfl] using this
  have h2 : DataW.trod enc Tryd.prog W base sp held n 24 [c8] = some y2 := by
    have := hf 2 _ rfl
    simpa [show Tryd.prog.cellsOf 24 = 1 by kernel_rfl] using this
  have hw' : ∀ k, k ∈ y0.1.weights Tryd.prog 23 ∨ k ∈ y1.1.weights Tryd.prog 4 ∨ k ∈ y2.1.weights Tryd.prog 24 → k ≤ reachBytes := by
    intro k hk
    refine hw k ?_
    unfold DataW.weights
    rw [Tryd.underlying26]
    simp only [List.map_cons, List.map_nil, DataW.weightsEach, List.mem_append, List.not_mem_nil, or_false]
    exact hk
  obtain ⟨a0, k0, w0⟩ := opens23 W H enc base sp held n _ _ h0 (fun k hk => hw' k (Or.inl hk))
  obtain ⟨a1, k1, w1⟩ := (Opens.opens_bool Tryd.underlying4) H enc base sp held n _ _ h1 (fun k hk => hw' k (Or.inr (Or.inl hk)))
  obtain ⟨a2, k2, w2⟩ := opens24 W H enc base sp held n _ _ h2 (fun k hk => hw' k (Or.inr (Or.inr hk)))
  have e0 := k23_open k0
  obtain ⟨B, e, e2, hle, hC⟩ := k2
  have e1 : [c7] = [Value.bool a1] := k1
  injection e0 with g0 e0
  injection e0 with g1 e0
  injection e0 with g2 e0
  injection e0 with g3 e0
  injection e0 with g4 e0
  injection e0 with g5 e0
  injection e0 with g6 _
  injection e1 with g7 _
  injection e2 with g8 _
  subst g0 g1 g2 g3 g4 g5 g6 g7 g8
  refine ⟨⟨a0, a1, a2⟩, B, e, rfl, hC, hle, ⟨fun n hn => ?_, fun p hp => ?_⟩, w2.2⟩
  · obtain ⟨v0, v1, v2, v3, v4, v5, v6⟩ := w0
    simp only [limL, List.mem_cons, List.not_mem_nil, or_false] at hn
    rcases hn with rfl | rfl | rfl | rfl | rfl | rfl | rfl <;> first | exact wfN_range v0 | exact wfN_range v1 | exact wfN_range v2 | exact wfN_range v3 | exact wfN_range v4 | exact wfN_range v5 | exact wfN_range v6
  · obtain ⟨_, v1, v2⟩ := w2.1 p hp
    exact ⟨wfN_range v1, wfN_range v2⟩
end Go.Proofs.YtmoebchaiokamaaDoor.Given
