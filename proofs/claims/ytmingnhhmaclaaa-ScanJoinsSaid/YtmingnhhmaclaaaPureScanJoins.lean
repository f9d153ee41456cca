/- Two sources one behind the other are scanned as the tokens of both, and what stands between the tokens is not seen (ScanJoins): for every two sources and number of blanks, no condition. -/
import Derived.Test.YtmingnhhmaclaaaGivenY
import Derived.OpenShut
namespace Go.Proofs.Ytmingnhhmaclaaa.Pure
open Go.RowKit Go.Proofs.YtmingnhhmaclaaaW.PrintWords Go.Proofs.Ytmingnhhmaclaaa.Given

theorem joins_walk (a0 : Option Addr) (len0 cap0 : Nat) (z0 : List Int) (a1 : Option Addr) (len1 cap1 : Nat) (z1 : List Int) (a2 : Int) (w : World)
    (w0 : (a0 = none ∧ len0 = 0 ∧ cap0 = 0 ∧ z0 = []) ∨ ∃ x, a0 = some x ∧ len0 ≤ cap0 ∧ cap0 ≤ maxLen ∧ z0.length = cap0 ∧ (∀ i, i < z0.length → w.cell? (x.add i) = some (.int .u8 (z0.getD i 0))) ∧ ∀ n ∈ z0, (Lit.int .u8 n).wf = true)
    (_y0 : len0 * 1 ≤ 140737488351232)
    (w1 : (a1 = none ∧ len1 = 0 ∧ cap1 = 0 ∧ z1 = []) ∨ ∃ x, a1 = some x ∧ len1 ≤ cap1 ∧ cap1 ≤ maxLen ∧ z1.length = cap1 ∧ (∀ i, i < z1.length → w.cell? (x.add i) = some (.int .u8 (z1.getD i 0))) ∧ ∀ n ∈ z1, (Lit.int .u8 n).wf = true)
    (_y1 : len1 * 1 ≤ 140737488351232) (w2 : (Lit.int .i64 a2).wf = true) :
    Calls Try.prog 6 #[.slice a0 len0 cap0, .slice a1 len1 cap1, .int .i64 a2] w fun e w' => e = .returned (.bool true) ∧ Below w.heap.size w w' := by
  obtain ⟨l0, rfl, hr0, hm0, hw0, hc0⟩ := ReadsInt.ofRowC w0
  obtain ⟨l1, rfl, hr1, hm1, hw1, hc1⟩ := ReadsInt.ofRowC w1
  have hr := Kd.C_of_reads (d := (0 : Int)) (h1 := fun _ => rfl) hr0
  have hr' := Kd.C_of_reads (d := (0 : Int)) (h1 := fun _ => rfl) hr1
  have hk := Go.bounds_i64 w2
  by_cases h : (scanAll l0).2.2 = 0
  · by_cases h' : (scanAll l1).2.2 = 0
    · exact joins_good _ _ l0 _ _ l1 a2 w hr hc0 hr' hc1 h h' (by omega)
    · exact joins_bad _ _ l0 _ _ l1 a2 w hr hc0 hr' hc1 (.inr h')
  · exact joins_bad _ _ l0 _ _ l1 a2 w hr hc0 hr' hc1 (.inl h)

end Go.Proofs.Ytmingnhhmaclaaa.Pure
