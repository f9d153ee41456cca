/- The contract of code.ins, whole; of code.flag; the text of a unit. -/
import Derived.Test.YtfkfgjmhcfagkaaDoorGivenD
import Derived.Test.YtfkfgjmhcfagkaaDoorGivenE
namespace Go.Proofs.YtfkfgjmhcfagkaaDoor.Given
open Go.RowKit Go.Proofs.YtfkfgjmhcfagkaaDoorW.PrintWords Go.Proofs.YtfkfgjmhcfagkaaDoor.Print
set_option linter.unusedVariables false
set_option linter.unusedSimpArgs false

def flagOf (b : Bool) : Int := if b then 1 else 0
theorem flag_any (b : Bool) (w : World) : Calls Tryd.prog 38 #[.bool b] w fun e w' => e = .returned (.int .i64 (flagOf b)) ∧ w' = w := by
  cases b
  · go_enter Tryd.func38, Tryd.ntmps38
    go_wp2
    go_ret
    exact ⟨rfl, rfl⟩
  · go_enter Tryd.func38, Tryd.ntmps38
    go_wp2
    go_ret
    exact ⟨rfl, rfl⟩

def hA (k : Nat) : Bool := hasAt k == 1 || hasAt k == 3 || hasAt k == 5
def hB (k : Nat) : Bool := hasAt k == 3
def hL (k : Nat) : Bool := hasAt k == 4 || hasAt k == 5
/-- An instruction has what its operation has, and nothing else. -/
def cleanIns (op a b : Int) (l : List Int) : Bool := decide (1 ≤ op) && decide (op ≤ 27) && (hA op.toNat || a == 0) && (hB op.toNat || b == 0) && (hL op.toNat || l.length == 0)
def numsOf (k : Nat) (a b : Int) : List Int := (if hA k then [a] else []) ++ (if hB k then [b] else [])
def insLine (op a b : Int) (l : List Int) : ByteArray := lineOf (nameAt op.toNat) (numsOf op.toNat a b ++ l)
theorem rows_all : ∀ k : Fin 28, 1 ≤ k.val → (nameAt k.val).toList.isEmpty = false ∧ (hasAt k.val = 0 ∨ hasAt k.val = 1 ∨ hasAt k.val = 3 ∨ hasAt k.val = 4 ∨ hasAt k.val = 5) := by decide +kernel
theorem rows_at (k : Nat) (h1 : 1 ≤ k) (h2 : k ≤ 27) : (nameAt k).toList.isEmpty = false ∧ (hasAt k = 0 ∨ hasAt k = 1 ∨ hasAt k = 3 ∨ hasAt k = 4 ∨ hasAt k = 5) := rows_all ⟨k, by omega⟩ h1
def insOf (op a b : Int) (l : List Int) : ByteArray × Bool := if cleanIns op a b l then (insLine op a b l, true) else (⟨#[]⟩, false)

theorem ins_any (op a b : Int) (A : Option Addr) (c : Nat) (l : List Int) (w : World) (hr : Kd.C (Kd.int .i64) w A l.length l) (hl : ∀ n ∈ l, (Lit.int .i64 n).wf = true) (ha : (Lit.int .i64 a).wf = true) (hb : (Lit.int .i64 b).wf = true) (hL' : LW w) (hlen : l.length ≤ 100000000000)
    (hsz : (insLine op a b l).size ≤ 9223372036854775807) :
    Calls Tryd.prog 39 #[.agg #[.int .i64 op, .int .i64 a, .int .i64 b, .slice A l.length c]] w fun e w' => e = .returned (.tuple #[.string (insOf op a b l).1, .bool (insOf op a b l).2]) ∧ Below w.heap.size w w' := by
  by_cases hop : 1 ≤ op ∧ op ≤ 27
  · obtain ⟨k, rfl⟩ : ∃ k : Nat, op = k := ⟨op.toNat, by omega⟩
    have h1 : 1 ≤ k := by omega
    have h2 : k ≤ 27 := by omega
    have q1 : decide ((1 : Int) ≤ k) = true := decide_eq_true hop.1
    have q2 : decide ((k : Int) ≤ 27) = true := decide_eq_true hop.2
    obtain ⟨hn, hh⟩ := rows_at k h1 h2
    have hsz' : (wordsOf (nameAt k) (numsOf k a b ++ l)).size + 1 ≤ 9223372036854775807 := by
      have : (insLine k a b l).size = (wordsOf (nameAt k) (numsOf k a b ++ l)).size + 1 := by
        simp only [insLine, lineOf, Int.toNat_natCast, size_append]
        rfl
      omega
    rcases hh with hh | hh | hh | hh | hh
    · have eA : hA k = false := by simp [hA, hh]
      have eB : hB k = false := by simp [hB, hh]
      have eL : hL k = false := by simp [hL, hh]
      simp only [numsOf, eA, eB, Bool.false_eq_true, if_false, List.append_nil] at hsz'
      simp only [insOf, cleanIns, insLine, numsOf, Int.toNat_natCast, q1, q2, eA, eB, eL, Bool.true_and, Bool.false_or, Bool.false_eq_true, if_false, List.append_nil]
      by_cases qa : a = 0
      · by_cases qb : b = 0
        · by_cases ql : l.length = 0
          · rw [if_pos (by simp [qa, qb, ql])]
            exact ins_0 k a b A c l w h1 h2 hn hh hr hl ha hb hL' hlen hsz' ⟨qa, qb, ql⟩
          · rw [if_neg (by simpa using fun _ _ => ql)]
            exact insno_0l k a b A c l.length w h1 h2 hn hh ⟨qa, qb, by omega⟩
        · rw [if_neg (by simp [qb])]
          exact insno_0b k a b A c l.length w h1 h2 hn hh ⟨qa, qb⟩
      · rw [if_neg (by simp [qa])]
        exact insno_0a k a b A c l.length w h1 h2 hn hh qa
    · have eA : hA k = true := by simp [hA, hh]
      have eB : hB k = false := by simp [hB, hh]
      have eL : hL k = false := by simp [hL, hh]
      simp only [numsOf, eA, eB, Bool.false_eq_true, if_false, if_true, List.append_nil] at hsz'
      simp only [insOf, cleanIns, insLine, numsOf, Int.toNat_natCast, q1, q2, eA, eB, eL, Bool.true_and, Bool.true_or, Bool.false_or, Bool.false_eq_true, if_false, if_true, List.append_nil]
      by_cases qb : b = 0
      · by_cases ql : l.length = 0
        · rw [if_pos (by simp [qb, ql])]
          exact ins_1 k a b A c l w h1 h2 hn hh hr hl ha hb hL' hlen hsz' ⟨qb, ql⟩
        · rw [if_neg (by simpa using fun _ => ql)]
          exact insno_1l k a b A c l.length w h1 h2 hn hh ⟨qb, by omega⟩
      · rw [if_neg (by simp [qb])]
        exact insno_1b k a b A c l.length w h1 h2 hn hh qb
    · have eA : hA k = true := by simp [hA, hh]
      have eB : hB k = true := by simp [hB, hh]
      have eL : hL k = false := by simp [hL, hh]
      simp only [numsOf, eA, eB, Bool.false_eq_true, if_false, if_true, List.singleton_append] at hsz'
      simp only [insOf, cleanIns, insLine, numsOf, Int.toNat_natCast, q1, q2, eA, eB, eL, Bool.true_and, Bool.true_or, Bool.false_or, Bool.false_eq_true, if_false, if_true, List.singleton_append]
      by_cases ql : l.length = 0
      · rw [if_pos (by simp [ql])]
        exact ins_3 k a b A c l w h1 h2 hn hh hr hl ha hb hL' hlen hsz' ql
      · rw [if_neg (by simpa using ql)]
        exact insno_3l k a b A c l.length w h1 h2 hn hh (by omega)
    · have eA : hA k = false := by simp [hA, hh]
      have eB : hB k = false := by simp [hB, hh]
      have eL : hL k = true := by simp [hL, hh]
      simp only [numsOf, eA, eB, Bool.false_eq_true, if_false, List.append_nil] at hsz'
      simp only [insOf, cleanIns, insLine, numsOf, Int.toNat_natCast, q1, q2, eA, eB, eL, Bool.true_and, Bool.true_or, Bool.and_true, Bool.false_or, Bool.false_eq_true, if_false, List.append_nil]
      by_cases qa : a = 0
      · by_cases qb : b = 0
        · rw [if_pos (by simp [qa, qb])]
          exact ins_4 k a b A c l w h1 h2 hn hh hr hl ha hb hL' hlen hsz' ⟨qa, qb⟩
        · rw [if_neg (by simp [qb])]
          exact insno_4b k a b A c l.length w h1 h2 hn hh ⟨qa, qb⟩
      · rw [if_neg (by simp [qa])]
        exact insno_4a k a b A c l.length w h1 h2 hn hh qa
    · have eA : hA k = true := by simp [hA, hh]
      have eB : hB k = false := by simp [hB, hh]
      have eL : hL k = true := by simp [hL, hh]
      simp only [numsOf, eA, eB, Bool.false_eq_true, if_false, if_true, List.append_nil] at hsz'
      simp only [insOf, cleanIns, insLine, numsOf, Int.toNat_natCast, q1, q2, eA, eB, eL, Bool.true_and, Bool.true_or, Bool.and_true, Bool.false_or, Bool.false_eq_true, if_false, if_true, List.append_nil]
      by_cases qb : b = 0
      · rw [if_pos (by simp [qb])]
        exact ins_5 k a b A c l w h1 h2 hn hh hr hl ha hb hL' hlen hsz' qb
      · rw [if_neg (by simp [qb])]
        exact insno_5b k a b A c l.length w h1 h2 hn hh qb
  · have hc : cleanIns op a b l = false := by
      unfold cleanIns
      by_cases q : 1 ≤ op
      · have : ¬ op ≤ 27 := fun h => hop ⟨q, h⟩
        simp [this]
      · simp [q]
    unfold insOf
    rw [hc]
    exact insno_out op a b A c l.length w (by omega)
end Go.Proofs.YtfkfgjmhcfagkaaDoor.Given
