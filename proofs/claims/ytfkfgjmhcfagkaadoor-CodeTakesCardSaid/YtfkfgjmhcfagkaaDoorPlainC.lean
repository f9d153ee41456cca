/- How many values an instruction takes and lays: the program's answer is the reference's. -/
import Derived.Test.YtfkfgjmhcfagkaaDoorPrint2
import Derived.Test.YtfkfgjmhcfagkaaDoorPrint3
import Derived.Test.YtfkfgjmhcfagkaaDoorPrint7
import Derived.Test.YtfkfgjmhcfagkaaDoorPrint8
import Derived.Test.YtfkfgjmhcfagkaaDoorPlainA
namespace Go.Proofs.YtfkfgjmhcfagkaaDoor.Given
open Go.RowKit Go.Proofs.YtfkfgjmhcfagkaaDoorW.PrintWords Go.Proofs.YtfkfgjmhcfagkaaDoorW.PrintLast Go.Proofs.YtfkfgjmhcfagkaaDoorW.PrintMore Go.Proofs.YtfkfgjmhcfagkaaDoor.Print

set_option linter.unusedSimpArgs false
theorem pops_l0 (a b c : Int) (l : List Int) : ∀ (k : Nat) (x i : Int), code_Pops.l0 k x l (l.length : Int) i = squintref08_Pops.l0 k x i a b c l
  | 0, _, _ => by unfold code_Pops.l0 squintref08_Pops.l0; rfl
  | k + 1, x, i => by
    unfold code_Pops.l0 squintref08_Pops.l0
    by_cases h : i < (l.length : Int)
    · simp only [if_pos h, pops_l0 a b c l k]
    · simp only [if_neg h]
theorem pops_l1 (a b c : Int) (l : List Int) : ∀ (k : Nat) (x i : Int), code_Pops.l1 k x i a b c l = squintref08_Pops.l1 k x i a b c l
  | 0, _, _ => by unfold code_Pops.l1 squintref08_Pops.l1; rfl
  | k + 1, x, i => by
    unfold code_Pops.l1 squintref08_Pops.l1
    simp only [pops_l1 a b c l k]
theorem pops_l0_some (a b c : Int) (l : List Int) (hl : l.length ≤ 4611686018427387904) : ∀ (n : Nat) (x i : Int), 0 ≤ i → (l.length : Int) - i ≤ n → ∃ r, squintref08_Pops.l0 (n + 1) x i a b c l = some r
  | 0, x, i, h0, h => by
    unfold squintref08_Pops.l0
    exact ⟨x, by rw [if_neg (by omega)]⟩
  | n + 1, x, i, h0, h => by
    unfold squintref08_Pops.l0
    by_cases hi : i < (l.length : Int)
    · rw [if_pos hi, if_pos h0, show wrap64 (i + 1) = i + 1 by simp only [wrap64]; omega]
      split
      · exact pops_l0_some a b c l hl n _ _ (by omega) (by omega)
      · exact pops_l0_some a b c l hl n _ _ (by omega) (by omega)
    · exact ⟨x, by rw [if_neg hi]⟩
theorem pops_l1_some (a b c : Int) (l : List Int) (hl : l.length ≤ 4611686018427387904) : ∀ (n : Nat) (x i : Int), 0 ≤ i → (l.length : Int) - i ≤ n → ∃ r, squintref08_Pops.l1 (n + 1) x i a b c l = some r
  | 0, x, i, h0, h => by
    unfold squintref08_Pops.l1
    exact ⟨x, by rw [if_neg (by omega)]⟩
  | n + 1, x, i, h0, h => by
    unfold squintref08_Pops.l1
    by_cases hi : i < (l.length : Int)
    · rw [if_pos hi, if_pos h0, show wrap64 (i + 2) = i + 2 by simp only [wrap64]; omega]
      split
      · exact pops_l1_some a b c l hl n _ _ (by omega) (by omega)
      · exact pops_l1_some a b c l hl n _ _ (by omega) (by omega)
    · exact ⟨x, by rw [if_neg hi]⟩
theorem some_eq (a : Int) : squintref08_some.f a = some (mx a 0) := by
  unfold squintref08_some.f mx
  split <;> rfl
theorem pops_eq (op a b : Int) (l : List Int) (ha : -9223372036854775808 ≤ a ∧ a ≤ 9223372036854775807) (hl : l.length ≤ 4611686018427387904) :
    ∃ r, code_Pops.f (l.length + 5) op a b l = some r ∧ squintref08_Pops.f (l.length + 5) op a b l = some r := by
  obtain ⟨r0, h0⟩ := pops_l0_some op a b l hl l.length 1 0 (by omega) (by omega)
  obtain ⟨r1, h1⟩ := pops_l1_some op a b l hl l.length 0 0 (by omega) (by omega)
  have g0 := (pops_l0 op a b l (l.length + 1) 1 0).trans h0
  have g1 := (pops_l1 op a b l (l.length + 1) 0 0).trans h1
  have hm : wrap64 ((mn (mx a 0) 9223372036854775806) + 1) = (if a = 9223372036854775807 then a else wrap64 (mx a 0 + 1)) := by
    simp only [wrap64, mn, mx]
    split <;> split <;> split <;> omega
  unfold code_Pops.f squintref08_Pops.f code_Pops.j0 squintref08_Pops.j0 code_Pops.j1 squintref08_Pops.j1 code_Pops.j2 squintref08_Pops.j2 code_Pops.j3 squintref08_Pops.j3
  simp only [some_eq, Option.bind_some, hm, g0, g1, h0, h1]
  by_cases c5 : op = 5
  · subst c5; exact ⟨_, rfl, rfl⟩
  by_cases c9 : op = 9
  · subst c9; exact ⟨_, rfl, rfl⟩
  by_cases c13 : op = 13
  · subst c13; exact ⟨_, rfl, rfl⟩
  by_cases c15 : op = 15
  · subst c15; exact ⟨_, rfl, rfl⟩
  by_cases c17 : op = 17
  · subst c17; exact ⟨_, rfl, rfl⟩
  by_cases c20 : op = 20
  · subst c20; exact ⟨_, rfl, rfl⟩
  by_cases c12 : op = 12
  · subst c12; exact ⟨_, rfl, rfl⟩
  by_cases c14 : op = 14
  · subst c14; exact ⟨_, rfl, rfl⟩
  by_cases c18 : op = 18
  · subst c18; exact ⟨_, rfl, rfl⟩
  by_cases c10 : op = 10
  · subst c10; exact ⟨_, rfl, rfl⟩
  by_cases c11 : op = 11
  · subst c11; exact ⟨_, rfl, rfl⟩
  by_cases c22 : op = 22
  · subst c22; exact ⟨_, rfl, rfl⟩
  by_cases c23 : op = 23
  · subst c23
    by_cases h : a = 9223372036854775807
    · simp [h]
    · simp [h]
  by_cases c24 : op = 24
  · subst c24
    by_cases h : a = 9223372036854775807
    · simp [h]
    · simp [h]
  by_cases c16 : op = 16
  · subst c16; exact ⟨_, rfl, rfl⟩
  by_cases c27 : op = 27
  · subst c27; exact ⟨_, rfl, rfl⟩
  exact ⟨0, by simp [c5, c9, c13, c15, c17, c20, c12, c14, c18, c10, c11, c22, c23, c24, c16, c27], by simp [c5, c9, c13, c15, c17, c20, c12, c14, c18, c10, c11, c22, c23, c24, c16, c27]⟩
theorem pushes_eq (op a b : Int) (l : List Int) : ∃ r, code_Pushes.f 5 op a b l = some r ∧ squintref08_Pushes.f 5 op a b l = some r := by
  by_cases h23 : op = 23
  · subst h23
    by_cases hb : b = 1
    · subst hb; exact ⟨1, by kernel_rfl, by kernel_rfl⟩
    · refine ⟨0, ?_, ?_⟩
      · show (if b = 1 then some 1 else some 0) = some 0
        rw [if_neg hb]
      · show (if b = 1 then some 1 else some 0) = some 0
        rw [if_neg hb]
  by_cases h : 1 ≤ op ∧ op ≤ 27
  · have h2 : op = 1 ∨ op = 2 ∨ op = 3 ∨ op = 4 ∨ op = 5 ∨ op = 6 ∨ op = 7 ∨ op = 8 ∨ op = 9 ∨ op = 10 ∨ op = 11 ∨ op = 12 ∨ op = 13 ∨ op = 14 ∨ op = 15 ∨ op = 16 ∨ op = 17 ∨ op = 18 ∨ op = 19 ∨ op = 20 ∨ op = 21 ∨ op = 22 ∨ op = 24 ∨ op = 25 ∨ op = 26 ∨ op = 27 := by omega
    rcases h2 with rfl | rfl | rfl | rfl | rfl | rfl | rfl | rfl | rfl | rfl | rfl | rfl | rfl | rfl | rfl | rfl | rfl | rfl | rfl | rfl | rfl | rfl | rfl | rfl | rfl | rfl
    · exact ⟨_, rfl, by kernel_rfl⟩
    · exact ⟨_, rfl, by kernel_rfl⟩
    · exact ⟨_, rfl, by kernel_rfl⟩
    · exact ⟨_, rfl, by kernel_rfl⟩
    · exact ⟨_, rfl, by kernel_rfl⟩
    · exact ⟨_, rfl, by kernel_rfl⟩
    · exact ⟨_, rfl, by kernel_rfl⟩
    · exact ⟨_, rfl, by kernel_rfl⟩
    · exact ⟨_, rfl, by kernel_rfl⟩
    · exact ⟨_, rfl, by kernel_rfl⟩
    · exact ⟨_, rfl, by kernel_rfl⟩
    · exact ⟨_, rfl, by kernel_rfl⟩
    · exact ⟨_, rfl, by kernel_rfl⟩
    · exact ⟨_, rfl, by kernel_rfl⟩
    · exact ⟨_, rfl, by kernel_rfl⟩
    · exact ⟨_, rfl, by kernel_rfl⟩
    · exact ⟨_, rfl, by kernel_rfl⟩
    · exact ⟨_, rfl, by kernel_rfl⟩
    · exact ⟨_, rfl, by kernel_rfl⟩
    · exact ⟨_, rfl, by kernel_rfl⟩
    · exact ⟨_, rfl, by kernel_rfl⟩
    · exact ⟨_, rfl, by kernel_rfl⟩
    · exact ⟨_, rfl, by kernel_rfl⟩
    · exact ⟨_, rfl, by kernel_rfl⟩
    · exact ⟨_, rfl, by kernel_rfl⟩
    · exact ⟨_, rfl, by kernel_rfl⟩
  · have hn := name_ref op
    rw [show nameOf op = ⟨#[]⟩ by unfold nameOf; rw [if_neg h]] at hn
    refine ⟨0, ?_, ?_⟩
    · unfold code_Pushes.f code_Pushes.j0
      simp [show ¬ op = 1 by omega, show ¬ op = 2 by omega, show ¬ op = 3 by omega, show ¬ op = 4 by omega, show ¬ op = 5 by omega, show ¬ op = 6 by omega, show ¬ op = 7 by omega, show ¬ op = 8 by omega, show ¬ op = 9 by omega, show ¬ op = 10 by omega, show ¬ op = 11 by omega, show ¬ op = 12 by omega, show ¬ op = 13 by omega, show ¬ op = 14 by omega, show ¬ op = 15 by omega, show ¬ op = 16 by omega, show ¬ op = 17 by omega, show ¬ op = 18 by omega, show ¬ op = 19 by omega, show ¬ op = 20 by omega, show ¬ op = 21 by omega, show ¬ op = 22 by omega, show ¬ op = 23 by omega, show ¬ op = 24 by omega, show ¬ op = 25 by omega, show ¬ op = 26 by omega, show ¬ op = 27 by omega]
    · unfold squintref08_Pushes.f squintref08_Pushes.j0
      simp [show ¬ op = 1 by omega, show ¬ op = 2 by omega, show ¬ op = 3 by omega, show ¬ op = 4 by omega, show ¬ op = 5 by omega, show ¬ op = 6 by omega, show ¬ op = 7 by omega, show ¬ op = 8 by omega, show ¬ op = 9 by omega, show ¬ op = 10 by omega, show ¬ op = 11 by omega, show ¬ op = 12 by omega, show ¬ op = 13 by omega, show ¬ op = 14 by omega, show ¬ op = 15 by omega, show ¬ op = 16 by omega, show ¬ op = 17 by omega, show ¬ op = 18 by omega, show ¬ op = 19 by omega, show ¬ op = 20 by omega, show ¬ op = 21 by omega, show ¬ op = 22 by omega, show ¬ op = 23 by omega, show ¬ op = 24 by omega, show ¬ op = 25 by omega, show ¬ op = 26 by omega, show ¬ op = 27 by omega, hn]
theorem lent_eq (l : List Int) (h : l.length ≤ 17592186043904) : squintlaw08_lentInts.f l = some (l ++ [-77, -78]) := by
  unfold squintlaw08_lentInts.f
  simp only [Option.bind_some, List.nil_append, List.length_nil, Nat.zero_add, List.length_cons]
  rw [if_pos (by omega), if_pos (by omega)]
theorem same_loop (l : List Int) (hl : l.length ≤ 4611686018427387904) : ∀ (n : Nat) (i : Int), 0 ≤ i → (l.length : Int) - i ≤ n → squintlaw08_sameInts.l0 (n + 1) l l i = some true
  | 0, i, h0, h => by
    unfold squintlaw08_sameInts.l0
    rw [if_neg (by omega)]
  | n + 1, i, h0, h => by
    unfold squintlaw08_sameInts.l0
    by_cases hi : i < (l.length : Int)
    · rw [if_pos hi, if_pos h0, if_pos hi, if_pos rfl, show wrap64 (i + 1) = i + 1 by simp only [wrap64]; omega]
      exact same_loop l hl n _ (by omega) (by omega)
    · rw [if_neg hi]
theorem same_self (l : List Int) (hl : l.length ≤ 4611686018427387904) : squintlaw08_sameInts.f (l.length + 1) l l = some true := by
  unfold squintlaw08_sameInts.f
  rw [if_pos rfl]
  exact same_loop l hl l.length 0 (by omega) (by omega)
end Go.Proofs.YtfkfgjmhcfagkaaDoor.Given
