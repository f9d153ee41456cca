/- Nothing is lost between the tokens, and each token scanned alone is itself (ScanCovers): for every source, no condition. -/
import Derived.Test.YtmingnhhmaclaaaGivenW
namespace Go.Proofs.Ytmingnhhmaclaaa.Pure
open Go.RowKit Go.Proofs.YtmingnhhmaclaaaW.PrintWords Go.Proofs.Ytmingnhhmaclaaa.Given

theorem covers_walk (a0 : Option Addr) (len0 cap0 : Nat) (z0 : List Int) (w : World)
    (w0 : (a0 = none ∧ len0 = 0 ∧ cap0 = 0 ∧ z0 = []) ∨ ∃ x, a0 = some x ∧ len0 ≤ cap0 ∧ cap0 ≤ maxLen ∧ z0.length = cap0 ∧ (∀ i, i < z0.length → w.cell? (x.add i) = some (.int .u8 (z0.getD i 0))) ∧ ∀ n ∈ z0, (Lit.int .u8 n).wf = true)
    (_y0 : len0 * 1 ≤ 140737488351232) :
    Calls Try.prog 5 #[.slice a0 len0 cap0] w fun e w' => e = .returned (.bool true) ∧ Below w.heap.size w w' := by
  obtain ⟨l0, rfl, hr0, hm0, hw0, hc0⟩ := ReadsInt.ofRowC w0
  have hr := Kd.C_of_reads (d := (0 : Int)) (h1 := fun _ => rfl) hr0
  by_cases h : (scanAll l0).2.2 = 0
  · exact covers_good _ _ l0 w hr hc0 h
  · exact covers_bad _ _ l0 w hr hc0 h

end Go.Proofs.Ytmingnhhmaclaaa.Pure
