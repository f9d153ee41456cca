/- beyond: what it answers of any events; how long their text can be. -/
import Derived.Test.YtiapfhlipoomaaaDoorPlainA
import Derived.Test.YtiapfhlipoomaaaDoorPlainC
import Derived.Test.YtiapfhlipoomaaaDoorPrint4
namespace Go.Proofs.YtiapfhlipoomaaaDoor.Given
open Go.RowKit Go.Proofs.YtiapfhlipoomaaaDoorW.PrintWords Go.Proofs.YtiapfhlipoomaaaDoorW.PrintLast Go.Proofs.YtiapfhlipoomaaaDoorW.PrintMore Go.Proofs.YtiapfhlipoomaaaDoor.Print
set_option linter.unusedVariables false
set_option linter.unusedSimpArgs false

def cap (n : Nat) : Int := if n ≤ 2147483647 then (n : Int) else 2147483648
theorem more_cap (a b : Nat) : squintlaw18_more.f (cap a) (cap b) = some (cap (a + b)) := by
  unfold squintlaw18_more.f cap
  by_cases h1 : a ≤ 2147483647
  · rw [if_pos h1, if_neg (by omega), show wrap64 (2147483647 - (a : Int)) = 2147483647 - (a : Int) by simp only [wrap64]; omega]
    by_cases h2 : b ≤ 2147483647
    · rw [if_pos h2]
      by_cases h3 : a + b ≤ 2147483647
      · rw [if_pos h3, if_neg (by omega), show wrap64 ((a : Int) + (b : Int)) = ((a + b : Nat) : Int) by simp only [wrap64]; omega]
      · rw [if_neg h3, if_pos (by omega)]
    · rw [if_neg h2, if_pos (by omega), if_neg (by omega)]
  · rw [if_neg h1, if_pos (by omega), if_neg (by omega)]
theorem cap_le (a : Nat) : (cap a ≤ 2147483647) = (a ≤ 2147483647) := by
  unfold cap
  split <;> simp <;> omega
theorem cap_gt (a : Nat) : (cap a > 2147483647) = (¬ a ≤ 2147483647) := by
  unfold cap
  split <;> simp <;> omega
theorem cap_over {a b : Nat} (h : ¬ a ≤ 2147483647) : cap (a + b) = cap a := by
  unfold cap
  rw [if_neg h, if_neg (by omega)]
/-- What the law counts of events. -/
def evz : List S24 → Nat
  | [] => 0
  | x :: l => 120 + x.f7.length * 21 + evz l
theorem evz_app : ∀ (a b : List S24), evz (a ++ b) = evz a + evz b
  | [], b => by simp [evz]
  | x :: a, b => by simp only [List.cons_append, evz, evz_app a b]; omega
theorem evz_len : ∀ (l : List S24), l.length * 120 ≤ evz l
  | [] => by simp [evz]
  | x :: a => by have := evz_len a; simp only [evz, List.length_cons]; omega
theorem beyond_go {l : List S24} (hl : l.length ≤ 4611686018427387904) : ∀ (n j a : Nat), l.length - j = n → j ≤ l.length →
    ∃ k, squintlaw18_beyond.l0 k l (cap a) (j : Int) = some (decide (¬ a + evz (l.drop j) ≤ 2147483647))
  | 0, j, a, hn, hj => by
    have e : j = l.length := by omega
    refine ⟨2, ?_⟩
    unfold squintlaw18_beyond.l0
    rw [if_neg (by omega)]
    unfold squintlaw18_beyond.j1
    rw [if_neg (by decide)]
    subst e
    simp only [cap_gt, List.drop_length, evz, Nat.add_zero]
  | n + 1, j, a, hn, hj => by
    have hlt : j < l.length := by omega
    have ed := List.drop_eq_getElem_cons hlt
    by_cases ha : a ≤ 2147483647
    · have ei : rd_T24 l (j : Int) = l[j] := by simp [rd_T24, hlt]
      by_cases h7 : l[j].f7.length ≤ 102261126
      · obtain ⟨q, hq⟩ := beyond_go hl n (j + 1) (a + 120 + l[j].f7.length * 21) (by omega) (by omega)
        refine ⟨q + 2, ?_⟩
        unfold squintlaw18_beyond.l0
        rw [if_pos (by omega), decide_eq_true (by rw [cap_le]; exact ha)]
        unfold squintlaw18_beyond.j1
        rw [if_pos rfl, show (120 : Int) = cap 120 by decide, more_cap]
        simp only [Option.bind_some]
        rw [if_pos (by omega), if_pos (by omega), ei, if_neg (by omega), show wrap64 ((l[j].f7.length : Int) * 21) = cap (l[j].f7.length * 21) by unfold cap; rw [if_pos (by omega)]; simp only [wrap64]; omega, more_cap]
        simp only [Option.bind_some]
        rw [show wrap64 ((j : Int) + 1) = ((j + 1 : Nat) : Int) by simp only [wrap64]; omega, hq, ed]
        simp only [evz]
        congr 2
        rw [show a + 120 + l[j].f7.length * 21 + evz (l.drop (j + 1)) = a + (120 + l[j].f7.length * 21 + evz (l.drop (j + 1))) by omega]
      · refine ⟨2, ?_⟩
        unfold squintlaw18_beyond.l0
        rw [if_pos (by omega), decide_eq_true (by rw [cap_le]; exact ha)]
        unfold squintlaw18_beyond.j1
        rw [if_pos rfl, show (120 : Int) = cap 120 by decide, more_cap]
        simp only [Option.bind_some]
        rw [if_pos (by omega), if_pos (by omega), ei, if_pos (by omega)]
        refine congrArg some (Eq.symm (decide_eq_true ?_))
        rw [ed]
        simp only [evz]
        omega
    · refine ⟨2, ?_⟩
      unfold squintlaw18_beyond.l0
      rw [if_pos (by omega), decide_eq_false (by rw [cap_le]; exact ha)]
      unfold squintlaw18_beyond.j1
      rw [if_neg (by decide)]
      simp only [cap_gt]
      rw [decide_eq_true ha, decide_eq_true (by omega)]
theorem beyond_says (l : List S24) (hl : l.length ≤ 4611686018427387904) : ∃ k, squintlaw18_beyond.f k l = some (decide (¬ evz l ≤ 2147483647)) := by
  obtain ⟨k, hk⟩ := beyond_go hl l.length 0 0 rfl (Nat.zero_le _)
  rw [List.drop_zero, Nat.zero_add] at hk
  exact ⟨k, hk⟩

theorem dec_len : ∀ (k u : Nat), u < 10 ^ (k + 1) → (Lib.decDigits u).length ≤ k + 1
  | 0, u, h => by
    rw [Lib.decDigits, dif_pos (by omega)]
    simp
  | k + 1, u, h => by
    rw [Lib.decDigits]
    split
    · simp
    · have := dec_len k (u / 10) (by rw [Nat.pow_succ] at h; omega)
      simp only [List.length_append, List.length_cons, List.length_nil]
      omega
theorem itoa_len (n : Int) (h : -9223372036854775808 ≤ n ∧ n ≤ 9223372036854775807) : (itoaB n).size ≤ 20 := by
  have hs : (itoaB n).size = (Lib.itoa n).length := by simp [itoaB, ByteArray.size]
  rw [hs]
  unfold Lib.itoa
  split
  · have := dec_len 18 n.natAbs (by omega)
    simp only [List.length_cons]
    omega
  · have := dec_len 18 n.toNat (by omega)
    omega
/-- Words with a byte behind each. -/
def wsz : List ByteArray → Nat
  | [] => 0
  | x :: l => x.size + 1 + wsz l
theorem wsz_app : ∀ (a b : List ByteArray), wsz (a ++ b) = wsz a + wsz b
  | [], b => by simp [wsz]
  | x :: a, b => by simp only [List.cons_append, wsz, wsz_app a b]; omega
theorem wsz_le {n : Nat} : ∀ (a : List ByteArray), (∀ x ∈ a, x.size ≤ n) → wsz a ≤ a.length * (n + 1)
  | [], _ => by simp [wsz]
  | x :: a, h => by
    have h1 := wsz_le a (fun y hy => h y (List.mem_cons_of_mem _ hy))
    have h2 := h x (List.mem_cons_self ..)
    simp only [wsz, List.length_cons, Nat.succ_mul]
    omega
theorem join_sz : ∀ (xs : List ByteArray), (Lib.join (xs.map (·.data.toList)) [32]).length ≤ wsz xs
  | [] => Nat.zero_le _
  | [x] => by
    have e : x.data.toList.length = x.size := Array.length_toList
    have e2 : Lib.join ([x].map (·.data.toList)) [32] = x.data.toList := by simp [Lib.join, List.intercalate]
    rw [e2, e]
    unfold wsz
    omega
  | x :: y :: l => by
    have h1 := join_sz (y :: l)
    have e : x.data.toList.length = x.size := Array.length_toList
    have e2 : Lib.join ((x :: y :: l).map (·.data.toList)) [32] = x.data.toList ++ [32] ++ Lib.join ((y :: l).map (·.data.toList)) [32] := by simp [Lib.join, List.intercalate, List.intersperse]
    rw [e2, List.length_append, List.length_append, e]
    have e3 : ([32] : List UInt8).length = 1 := rfl
    rw [e3]
    unfold wsz
    omega
theorem line_sz (xs : List ByteArray) : (lineB xs).size ≤ wsz xs + 1 := by
  rw [lineB_size, joinB_size]
  exact Nat.add_le_add_right (join_sz xs) 1
theorem word_len (k : Nat) : (wordB k).size ≤ 5 := by unfold wordB; split <;> decide
theorem some_len (k n : Nat) : ((wsK k).getD n ⟨#[]⟩).size ≤ 6 := by
  have key : ∀ (l : List ByteArray), (∀ x ∈ l, x.size ≤ 6) → (l.getD n ⟨#[]⟩).size ≤ 6 := by
    intro l h
    rw [List.getD_eq_getElem?_getD]
    rcases hx : l[n]? with _ | x
    · show (0 : Nat) ≤ 6; omega
    · exact h x (List.mem_of_getElem? hx)
  refine key _ ?_
  unfold wsK
  split <;> decide
theorem cls1_fo (k : Nat) (h : clsK k = 1) : (foK k).length ≤ 2 := by
  unfold clsK at h
  split at h <;> simp_all [foK]
theorem words_sz (x : S24) (h : rngX x) : wsz (wordsX x) ≤ 119 + x.f7.length * 21 := by
  have hw := word_len x.f0.toNat
  have hfl := fo_len x.f0.toNat
  have h1 : wsz ((foK x.f0.toNat).map (fun o => itoaB (getK x o))) ≤ (foK x.f0.toNat).length * 21 := by
    have := wsz_le (n := 20) ((foK x.f0.toNat).map (fun o => itoaB (getK x o))) (fun y hy => by
      obtain ⟨o, ho, rfl⟩ := List.mem_map.1 hy
      exact itoa_len _ (h.1 o (fo_le _ o ho).2))
    rwa [List.length_map] at this
  have h2 : wsz (x.f7.map itoaB) ≤ x.f7.length * 21 := by
    have := wsz_le (n := 20) (x.f7.map itoaB) (fun y hy => by
      obtain ⟨o, ho, rfl⟩ := List.mem_map.1 hy
      exact itoa_len _ (h.2 o ho))
    rwa [List.length_map] at this
  have h3 : wsz (wordsM x.f0.toNat x) ≤ 7 ∨ ((foK x.f0.toNat).length ≤ 2 ∧ wsz (wordsM x.f0.toNat x) ≤ 21) := by
    unfold wordsM
    by_cases c1 : clsK x.f0.toNat = 1
    · rw [if_pos c1]
      exact .inr ⟨cls1_fo _ c1, by simp only [wsz]; have := itoa_len x.f6 (h.1 6 (by omega)); omega⟩
    · rw [if_neg c1]
      by_cases c2 : clsK x.f0.toNat = 2
      · rw [if_pos c2]
        exact .inl (by simp only [wsz]; have := some_len x.f0.toNat x.f6.toNat; omega)
      · rw [if_neg c2]
        exact .inl (by simp [wsz])
  unfold wordsX wordsK wordsF
  simp only [List.cons_append, wsz, wsz_app]
  rcases h3 with h3 | ⟨h4, h3⟩ <;> omega
theorem text_len : ∀ (l : List S24) (acc : ByteArray), (∀ x ∈ l, rngX x) → (l.foldl (fun acc x => acc ++ lineB (wordsX x)) acc).size ≤ acc.size + evz l
  | [], acc, h => Nat.le_refl _
  | x :: l, acc, h => by
    have h1 := text_len l (acc ++ lineB (wordsX x)) (fun y hy => h y (List.mem_cons_of_mem _ hy))
    have h2 := line_sz (wordsX x)
    have h3 := words_sz x (h x (List.mem_cons_self ..))
    rw [size_append] at h1
    simp only [List.foldl_cons, evz]
    omega
theorem text_evz (l : List S24) (h : ∀ x ∈ l, rngX x) : (textOf l).size ≤ evz l := by
  have := text_len l ⟨#[]⟩ h
  have e : (ByteArray.mk #[]).size = 0 := rfl
  unfold textOf
  omega
theorem text_fold (l : List S24) (acc : ByteArray) : l.foldl (fun acc x => acc ++ lineB (wordsX x)) acc = acc ++ textOf l := by
  have key : ∀ (l : List S24) (p acc : ByteArray), l.foldl (fun acc x => acc ++ lineB (wordsX x)) (p ++ acc) = p ++ l.foldl (fun acc x => acc ++ lineB (wordsX x)) acc := by
    intro l
    induction l with
    | nil => intro p acc; rfl
    | cons x l ih => intro p acc; simp only [List.foldl_cons]; rw [ByteArray.append_assoc, ih]
  have := key l acc ⟨#[]⟩
  have e : acc ++ ⟨#[]⟩ = acc := by apply ByteArray.ext; simp
  rw [e] at this
  exact this
theorem text_app (a b : List S24) : textOf (a ++ b) = textOf a ++ textOf b := by
  rw [textOf, List.foldl_append]
  exact text_fold b _
/-- The law on the texts. -/
theorem print_joins (a b : List S24) : (if (printOf a).2 ≠ 0 ∨ (printOf b).2 ≠ 0 then (printOf (a ++ b)).2 = 180 ∧ (printOf (a ++ b)).1 = ⟨#[]⟩ else (printOf (a ++ b)).2 = 0 ∧ (printOf (a ++ b)).1 = (printOf a).1 ++ (printOf b).1) := by
  unfold printOf
  rw [List.all_append]
  cases ha : a.all okX <;> cases hb : b.all okX <;> simp [text_app]
end Go.Proofs.YtiapfhlipoomaaaDoor.Given
