/- code.read, whole. -/
import Derived.Test.YtfkfgjmhcfagkaaDoorGivenJ
namespace Go.Proofs.YtfkfgjmhcfagkaaDoor.Given
open Go.RowKit Go.Proofs.YtfkfgjmhcfagkaaDoorW.PrintWords Go.Proofs.YtfkfgjmhcfagkaaDoorW.PrintLast Go.Proofs.YtfkfgjmhcfagkaaDoorW.PrintMore Go.Proofs.YtfkfgjmhcfagkaaDoor.Print
set_option linter.unusedVariables false
set_option linter.unusedSimpArgs false

/-- What read answers lies in memory of its own. -/
theorem read_yes (s : ByteArray) (wd : ByteArray) (ns : List Int) (w : World) (hs : s.size < 4294967281) (hL : LW w) (h : readOf s = some (wd, ns)) :
    Calls Tryd.prog 61 #[.string s] w fun e w' => ∃ v, e = .returned (.tuple #[.string wd, v, .bool true]) ∧ Kd.R (Kd.int .i64) 3 w' w.heap.size (fun _ => True) v ns ∧ Below w.heap.size w w' := by
  cases hc : Lib.countB s space with
  | succ n => exact read_some s n hc wd ns w hs hL h
  | zero =>
    have hws : wordsL s = [s] := by rw [wordsL, hc]; rfl
    unfold readOf at h
    rw [hws] at h
    injection h with h
    injection h with h1 h2
    subst h2
    refine (read_one s hc w hs hL).mono ?_
    rintro e w' ⟨rfl, hb⟩
    exact ⟨_, by rw [← h1]; rfl, Kd.R_nil _ _ _ _ _, hb⟩
theorem read_no (s : ByteArray) (w : World) (hs : s.size < 4294967281) (hL : LW w) (h : readOf s = none) :
    Calls Tryd.prog 61 #[.string s] w fun e w' => e = .returned (.tuple #[.string ⟨#[]⟩, .slice none 0 0, .bool false]) ∧ Below w.heap.size w w' := by
  cases hc : Lib.countB s space with
  | succ n => exact read_none s n hc w hs hL h
  | zero =>
    have hws : wordsL s = [s] := by rw [wordsL, hc]; rfl
    unfold readOf at h
    rw [hws] at h
    cases h
end Go.Proofs.YtfkfgjmhcfagkaaDoor.Given
