/- The program's Text and Kind are the reference's, of every number and every text, and each is the other's (ScanTexts). No condition. -/
import Derived.Test.YtmingnhhmaclaaaPrint2
import Derived.OpenShut
namespace Go.Proofs.Ytmingnhhmaclaaa.Pure
open Go.RowKit Go.Proofs.Ytmingnhhmaclaaa.Print Go.Proofs.Ytmingnhhmaclaaa.Given Go.Proofs.YtmingnhhmaclaaaW.PrintWords Go.Proofs.YtmingnhhmaclaaaW.PrintLast

theorem wordsS_eq : squintref01_words.f = some wordsS := by with_unfolding_all rfl
theorem signsS_eq : squintref01_signs.f = some signsS := by with_unfolding_all rfl
theorem wordsS_length : wordsS.length = 21 := by with_unfolding_all rfl
theorem signsS_length : signsS.length = 27 := by with_unfolding_all rfl

theorem refText (a0 : Int) (h0 : -9223372036854775808 ≤ a0) (h1 : a0 ≤ 9223372036854775807) (k : Nat) : squintref01_Text.f (k + 1) a0 = some (textOf a0) := by
  unfold squintref01_Text.f
  rw [wordsS_eq, signsS_eq]
  simp only [Option.bind_some, wordsS_length]
  have e1 : wrap64 (10 + ((21 : Nat) : Int)) = 31 := by unfold wrap64; omega
  have e2 : wrap64 (40 + ((27 : Nat) : Int)) = 67 := by unfold wrap64; omega
  rw [e1]
  have hj : ∀ b : Bool, b = decide (10 ≤ a0 ∧ a0 < 31) → squintref01_Text.j0 (k + 1) a0 wordsS signsS b = some (textOf a0) := by
    intro b hb
    simp only [squintref01_Text.j0, wordsS_length, signsS_length, e2]
    by_cases ha : 10 ≤ a0 ∧ a0 < 31
    · have w1 : wrap64 (a0 - 10) = a0 - 10 := by unfold wrap64; omega
      rw [if_pos (by rw [hb]; exact decide_eq_true ha), w1, if_pos (by omega), if_pos (by omega)]
      unfold textOf
      rw [if_pos ha]
      rfl
    · rw [if_neg (by rw [hb]; simpa using ha)]
      by_cases hb1 : 40 ≤ a0 ∧ a0 < 67
      · have w1 : wrap64 (a0 - 40) = a0 - 40 := by unfold wrap64; omega
        rw [if_pos (by omega), if_pos (by omega), w1, if_pos (by omega), if_pos (by omega)]
        unfold textOf
        rw [if_neg ha, if_pos hb1]
        rfl
      · unfold textOf
        rw [if_neg ha, if_neg hb1]
        by_cases h40 : a0 ≥ 40
        · rw [if_pos h40, if_neg (by omega)]
        · rw [if_neg h40]
  by_cases h10 : a0 ≥ 10
  · rw [if_pos h10]
    exact hj _ (by simp [show (10 : Int) ≤ a0 from h10])
  · rw [if_neg h10]
    exact hj _ (by simp; omega)

theorem textOf_word (i : Nat) (h : i < 21) : textOf ((10 + i : Nat) : Int) = wordsS.getD i ⟨#[]⟩ := by
  unfold textOf
  rw [if_pos (by omega), show ((10 + i : Nat) - 10 : Int).toNat = i by omega]
theorem textOf_sign (i : Nat) (h : i < 27) : textOf ((40 + i : Nat) : Int) = signsS.getD i ⟨#[]⟩ := by
  unfold textOf
  rw [if_neg (by omega), if_pos (by omega), show ((40 + i : Nat) - 40 : Int).toNat = i by omega]
theorem textOf_none (i : Nat) (h : i < 10 ∨ 31 ≤ i ∧ i < 40) : (textOf (i : Int)).toList = [] := by
  unfold textOf
  rw [if_neg (by omega), if_neg (by omega), ByteArray.toList_eq]

theorem ref_l1 (t : ByteArray) : ∀ (d i k : Nat), i + d = 27 → d < k → squintref01_Kind.l1 k t signsS i = some ((kindFind t d (40 + i) : Nat) : Int) := by
  intro d
  induction d with
  | zero =>
    intro i k hi hk
    obtain ⟨k, rfl⟩ : ∃ m, k = m + 1 := ⟨k - 1, by omega⟩
    simp only [squintref01_Kind.l1, signsS_length]
    rw [if_neg (by omega)]
    rfl
  | succ d ih =>
    intro i k hi hk
    obtain ⟨k, rfl⟩ : ∃ m, k = m + 1 := ⟨k - 1, by omega⟩
    simp only [squintref01_Kind.l1, signsS_length]
    rw [if_pos (by omega), if_pos (by omega)]
    have hr : (rdOf ByteArray.empty signsS (i : Int)) = textOf ((40 + i : Nat) : Int) := by
      rw [textOf_sign i (by omega)]
      rfl
    rw [hr]
    unfold kindFind
    by_cases he : (textOf ((40 + i : Nat) : Int)).toList = t.toList
    · rw [if_pos he, if_pos he]
      congr 1
      unfold wrap64
      omega
    · rw [if_neg he, if_neg he, show wrap64 ((i : Int) + 1) = ((i + 1 : Nat) : Int) by unfold wrap64; omega]
      exact ih (i + 1) k (by omega) (by omega)
theorem kindFind_skip (t : ByteArray) (ht : t.toList ≠ []) : ∀ (d n i : Nat), (∀ j, i ≤ j → j < i + d → j < 10 ∨ 31 ≤ j ∧ j < 40) → kindFind t (d + n) i = kindFind t n (i + d)
  | 0, n, i, _ => by simp
  | d + 1, n, i, h => by
    rw [show d + 1 + n = (d + n) + 1 by omega, kindFind, if_neg (by rw [textOf_none i (h i (by omega) (by omega))]; exact fun e => ht e.symm), kindFind_skip t ht d n (i + 1) (fun j h1 h2 => h j (by omega) (by omega))]
    congr 1
    omega
theorem ref_l0 (t : ByteArray) (ht : t.toList ≠ []) : ∀ (d i k : Nat), i + d = 21 → d + 28 < k → squintref01_Kind.l0 k t wordsS i = some ((kindFind t (36 + d) (10 + i) : Nat) : Int) := by
  intro d
  induction d with
  | zero =>
    intro i k hi hk
    obtain ⟨k, rfl⟩ : ∃ m, k = m + 1 := ⟨k - 1, by omega⟩
    simp only [squintref01_Kind.l0, wordsS_length]
    rw [if_neg (by omega), signsS_eq]
    simp only [Option.bind_some]
    have h := ref_l1 t 27 0 k (by omega) (by omega)
    have hs := kindFind_skip t ht 9 27 31 (fun j _ _ => by omega)
    obtain rfl : i = 21 := by omega
    rw [show (36 + 0 : Nat) = 9 + 27 by omega, show (10 + 21 : Nat) = 31 by omega, hs]
    exact h
  | succ d ih =>
    intro i k hi hk
    obtain ⟨k, rfl⟩ : ∃ m, k = m + 1 := ⟨k - 1, by omega⟩
    simp only [squintref01_Kind.l0, wordsS_length]
    rw [if_pos (by omega), if_pos (by omega)]
    have hr : (rdOf ByteArray.empty wordsS (i : Int)) = textOf ((10 + i : Nat) : Int) := by
      rw [textOf_word i (by omega)]
      rfl
    rw [hr, show 36 + (d + 1) = (36 + d) + 1 by omega]
    unfold kindFind
    by_cases he : (textOf ((10 + i : Nat) : Int)).toList = t.toList
    · rw [if_pos he, if_pos he]
      congr 1
      unfold wrap64
      omega
    · rw [if_neg he, if_neg he, show wrap64 ((i : Int) + 1) = ((i + 1 : Nat) : Int) by unfold wrap64; omega]
      exact ih (i + 1) k (by omega) (by omega)
theorem refKind_empty : squintref01_Kind.f 60 ⟨#[]⟩ = some 0 := by decide +kernel
theorem refKind (t : ByteArray) : ∃ k, squintref01_Kind.f k t = some (kindOf t) := by
  by_cases ht : t.toList = []
  · obtain rfl : t = ⟨#[]⟩ := by
      obtain ⟨⟨l⟩⟩ := t
      rw [ByteArray.toList_eq] at ht
      simp at ht
      rw [ht]
    exact ⟨60, by rw [refKind_empty]; decide +kernel⟩
  · refine ⟨60, ?_⟩
    unfold squintref01_Kind.f kindOf
    rw [wordsS_eq, if_neg ht]
    simp only [Option.bind_some]
    have h := ref_l0 t ht 21 0 60 (by omega) (by omega)
    have hs := kindFind_skip t ht 10 57 0 (fun j _ _ => by omega)
    rw [show (67 : Nat) = 10 + 57 by omega, hs]
    exact h
theorem kind_text : ∀ i : Fin 67, (textOf (i.1 : Int)).toList = [] ∨ kindOf (textOf (i.1 : Int)) = (i.1 : Int) := by decide +kernel
theorem text_kind (a0 : Int) (h : (textOf a0).toList ≠ []) : kindOf (textOf a0) = a0 := by
  have hr : 0 ≤ a0 ∧ a0 < 67 := by
    by_cases hh : 0 ≤ a0 ∧ a0 < 67
    · exact hh
    · exfalso
      apply h
      unfold textOf
      rw [if_neg (by omega), if_neg (by omega), ByteArray.toList_eq]
  rcases kind_text ⟨a0.toNat, by omega⟩ with h1 | h1
  · simp only [Int.toNat_of_nonneg hr.1] at h1
    exact absurd h1 h
  · simpa only [Int.toNat_of_nonneg hr.1] using h1
theorem kindFind_text (t : ByteArray) : ∀ n i : Nat, kindFind t n i ≠ 0 → (textOf (kindFind t n i : Nat)).toList = t.toList
  | 0, _, h => by simp [kindFind] at h
  | n + 1, i, h => by
    unfold kindFind at h ⊢
    split
    · assumption
    · rename_i a
      rw [if_neg a] at h
      exact kindFind_text t n (i + 1) h
theorem kindOf_text (t : ByteArray) (h : kindOf t ≠ 0) : (textOf (kindOf t)).toList = t.toList := by
  unfold kindOf at h ⊢
  split
  · rename_i a; rw [if_pos a] at h; exact absurd rfl h
  · rename_i a
    rw [if_neg a] at h
    exact kindFind_text t 67 0 (by simpa using h)

theorem ScanTexts : squintlaw01_ScanTexts.Pure := by
  intro a0 a1 h0 _
  have hb : -9223372036854775808 ≤ a0 ∧ a0 ≤ 9223372036854775807 := Go.bounds_i64 h0
  obtain ⟨k, hk⟩ := refKind a1
  refine ⟨k + 1, ?_⟩
  have hk' := at_rounds (squintref01_Kind.mono a1) (show k ≤ k + 1 by omega) hk
  unfold squintlaw01_ScanTexts.f
  rw [refText a0 hb.1 hb.2 k, hk']
  simp only [squintlaw01_shown.f, scan_Text.f, scan_Kind.f, Option.bind_some, if_true, bne_self_eq_false, squintlaw01_ScanTexts.j0, Bool.false_eq_true, if_false]
  have ht := kindOf_text a1
  have hk2 := text_kind a0
  by_cases h1 : (textOf a0).toList = []
  · rw [if_pos h1]
    by_cases h2 : kindOf a1 = 0
    · rw [if_pos h2]
    · rw [if_neg h2, ht h2]; simp
  · rw [if_neg h1, if_pos (hk2 h1)]
    by_cases h2 : kindOf a1 = 0
    · rw [if_pos h2]
    · rw [if_neg h2, ht h2]; simp

end Go.Proofs.Ytmingnhhmaclaaa.Pure
