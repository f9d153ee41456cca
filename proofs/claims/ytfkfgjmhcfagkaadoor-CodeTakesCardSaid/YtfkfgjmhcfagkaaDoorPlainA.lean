/- The reference's names of operations are the program's. -/
import Derived.Test.YtfkfgjmhcfagkaaDoorGivenB
import Derived.Test.YtfkfgjmhcfagkaaDoorPrint6
namespace Go.Proofs.YtfkfgjmhcfagkaaDoor.Given
open Go.RowKit Go.Proofs.YtfkfgjmhcfagkaaDoorW.PrintWords Go.Proofs.YtfkfgjmhcfagkaaDoorW.PrintLast Go.Proofs.YtfkfgjmhcfagkaaDoor.Print

theorem name_all : ∀ k : Fin 28, 1 ≤ k.val → squintref08_Name.f (k.val : Int) = some (nameAt k.val) := by decide +kernel
theorem name_ref (op : Int) : squintref08_Name.f op = some (nameOf op) := by
  unfold nameOf
  by_cases h : 1 ≤ op ∧ op ≤ 27
  · rw [if_pos h]
    have := name_all ⟨op.toNat, by omega⟩ (by show 1 ≤ op.toNat; omega)
    simp only at this
    rwa [show ((op.toNat : Nat) : Int) = op by omega] at this
  · rw [if_neg h]
    unfold squintref08_Name.f
    by_cases h1 : op < 1
    · rw [if_pos h1]
    · rw [if_neg h1, if_pos (by omega)]
def namesL : List ByteArray := (squintref08_names.f).getD []
theorem names_eq : squintref08_names.f = some namesL := rfl
theorem names_len : namesL.length = 27 := by decide +kernel
theorem names_at : ∀ j : Fin 27, rdOf ByteArray.empty namesL (j.val : Int) = nameAt (j.val + 1) := by decide +kernel
theorem op_loop (t : ByteArray) : ∀ (n j : Nat), j + n = 27 → squintref08_Op.l0 (n + 1) t namesL (j : Int) = some ((opFind t n (j + 1) : Nat) : Int)
  | 0, j, h => by
    unfold squintref08_Op.l0
    rw [if_neg (by rw [names_len]; omega)]
    rfl
  | n + 1, j, h => by
    unfold squintref08_Op.l0
    rw [if_pos (by rw [names_len]; omega), if_pos (by omega), names_at ⟨j, by omega⟩, show wrap64 ((j : Int) + 1) = ((j + 1 : Nat) : Int) by simp only [wrap64]; omega, op_loop t n (j + 1) (by omega)]
    by_cases hq : (nameAt (j + 1)).toList = t.toList
    · rw [if_pos hq, opFind, if_pos ⟨by omega, hq⟩]
    · rw [if_neg hq, opFind, if_neg (fun h => hq h.2)]
theorem op_ref (t : ByteArray) : squintref08_Op.f 28 t = some (opOf t) := by
  unfold squintref08_Op.f
  rw [names_eq, Option.bind_some]
  have := op_loop t 27 0 rfl
  rw [show ((0 : Nat) : Int) = 0 from rfl] at this
  rw [this]
  unfold opOf
  rw [show opFind t 28 0 = opFind t 27 1 from by rw [opFind]; simp]
end Go.Proofs.YtfkfgjmhcfagkaaDoor.Given
