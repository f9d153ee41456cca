/- What Print writes, as plain functions. -/
import Derived.Test.YtiapfhlipoomaaaDoorGivenBF
import Derived.Test.YtiapfhlipoomaaaDoorGivenF
namespace Go.Proofs.YtiapfhlipoomaaaDoor.Given
open Go.RowKit Go.Proofs.YtiapfhlipoomaaaDoorW.PrintWords Go.Proofs.YtiapfhlipoomaaaDoorW.PrintLast Go.Proofs.YtiapfhlipoomaaaDoorW.PrintMore Go.Proofs.YtiapfhlipoomaaaDoor.Print
set_option linter.unusedVariables false
set_option linter.unusedSimpArgs false

/-- A kind's word and numbers. -/
def wordsF (k : Nat) (x : S24) : List ByteArray := wordB k :: (foK k).map (fun o => itoaB (getK x o))
/-- What stands behind them. -/
def wordsM (k : Nat) (x : S24) : List ByteArray := if clsK k = 1 then [itoaB x.f6] else if clsK k = 2 then [(wsK k).getD x.f6.toNat ⟨#[]⟩] else []
/-- An event's words. -/
def wordsK (k : Nat) (x : S24) : List ByteArray := wordsF k x ++ wordsM k x ++ x.f7.map itoaB
def wordsX (x : S24) : List ByteArray := wordsK x.f0.toNat x
/-- The text of events. -/
def textOf (l : List S24) : ByteArray := l.foldl (fun acc x => acc ++ lineB (wordsX x)) ⟨#[]⟩
/-- What Print answers. -/
def printOf (l : List S24) : ByteArray × Int := if l.all okX = true then (textOf l, 0) else (⟨#[]⟩, 180)
theorem textOf_snoc (l : List S24) (x : S24) : textOf (l ++ [x]) = textOf l ++ lineB (wordsX x) := by simp [textOf]
theorem textOf_size (a b : List S24) : (textOf a).size ≤ (textOf (a ++ b)).size := by
  have key : ∀ (b : List S24) (s : ByteArray), s.size ≤ (b.foldl (fun acc x => acc ++ lineB (wordsX x)) s).size := by
    intro b
    induction b with
    | nil => intro s; exact Nat.le_refl _
    | cons x b ih =>
      intro s
      refine Nat.le_trans ?_ (ih _)
      rw [size_append]
      omega
  have : textOf (a ++ b) = b.foldl (fun acc x => acc ++ lineB (wordsX x)) (textOf a) := by simp [textOf]
  rw [this]
  exact key b _
theorem words_len (xs : List ByteArray) : xs.length ≤ (lineB xs).size := by
  have h := join_len (xs.map (·.data.toList))
  rw [List.length_map] at h
  rw [lineB_size, joinB_size]
  exact h
/-- An event's numbers are Go's. -/
def rngX (x : S24) : Prop := (∀ o, o ≤ 6 → -9223372036854775808 ≤ getK x o ∧ getK x o ≤ 9223372036854775807) ∧ ∀ n ∈ x.f7, -9223372036854775808 ≤ n ∧ n ≤ 9223372036854775807
end Go.Proofs.YtiapfhlipoomaaaDoor.Given
