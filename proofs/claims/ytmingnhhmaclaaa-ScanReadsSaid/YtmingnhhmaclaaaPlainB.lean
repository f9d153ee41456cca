/- Plain facts on what the scanner answers: its tokens one by one; a token scanned alone. No condition. -/
import Derived.Test.YtmingnhhmaclaaaPlainA
namespace Go.Proofs.Ytmingnhhmaclaaa.Given
open Go.RowKit Go.Proofs.YtmingnhhmaclaaaW.PrintWords Go.Proofs.Ytmingnhhmaclaaa.Print

inductive Toks (l : List Int) : Nat → List S40 → Prop
  | done (a : Nat) : Gap l a l.length → Toks l a []
  | cons (a p : Nat) (k : Int) (n : Nat) (v y : Int) (ts : List S40) : Gap l a p → p < l.length → isBlank (rd l p) = false → rd l p ≠ 35 → tokenOf (l.drop p) = (k, y, (n : Int), v, 0) → 1 ≤ n → p + n ≤ l.length → Toks l (p + n) ts → Toks l a (⟨k, p, n, v⟩ :: ts)

theorem scanGo_toks (l : List Int) : ∀ (m b a : Nat) (acc : List S40), l.length - b < m → Gap l a b → (scanGo l m b acc).2.2 = 0 →
    ∃ ts, scanGo l m b acc = (acc ++ ts, 0, 0) ∧ Toks l a ts
  | 0, _, _, _, h, _, _ => by omega
  | m + 1, b, a, acc, hm, hg, h => by
    unfold scanGo at h ⊢
    have hb2 := hg.2.1
    by_cases hlt : b < l.length
    · rw [if_pos hlt] at h ⊢
      by_cases hbl : isBlank (rd l b) = true
      · rw [if_pos hbl] at h ⊢
        exact scanGo_toks l m (b + 1) a acc (by omega) (hg.blank hlt hbl) h
      · rw [if_neg hbl] at h ⊢
        by_cases h35 : rd l b = 35
        · rw [if_pos h35] at h ⊢
          have hg' := hg.remark hlt h35
          have h1 := runLen_pos 24 (l.drop b) (by rw [List.length_drop]; omega) (by
            have e : rd (l.drop b) 0 = rd l b := by simp [rd]
            rw [e, h35]; rfl)
          exact scanGo_toks l m _ a acc (by omega) hg' h
        · rw [if_neg h35] at h ⊢
          by_cases h5 : (tokenOf (l.drop b)).2.2.2.2 = 0
          · rw [if_pos h5] at h ⊢
            obtain ⟨n, hn, hn1, hn2⟩ := tokenOf_len (l.drop b) (by rw [List.length_drop]; omega) h5
            rw [List.length_drop] at hn2
            have hn' : (tokenOf (l.drop b)).2.2.1.toNat = n := by rw [hn]; rfl
            rw [hn'] at h ⊢
            obtain ⟨ts, he, ht⟩ := scanGo_toks l m (b + n) (b + n) _ (by omega) (Gap.refl l _ (by omega)) h
            refine ⟨⟨(tokenOf (l.drop b)).1, b, (tokenOf (l.drop b)).2.2.1, (tokenOf (l.drop b)).2.2.2.1⟩ :: ts, ?_, ?_⟩
            · rw [he]; simp
            · rw [hn]
              refine Toks.cons a b _ n _ (tokenOf (l.drop b)).2.1 ts hg hlt (by simpa using hbl) h35 ?_ hn1 (by omega) ht
              rw [← hn, ← h5]
          · rw [if_neg h5] at h
            exact absurd h h5
    · rw [if_neg hlt] at h ⊢
      obtain rfl : b = l.length := by omega
      exact ⟨[], by simp, Toks.done a hg⟩
theorem scanGo_bad (l : List Int) : ∀ (m b : Nat) (acc : List S40), b ≤ l.length → (scanGo l m b acc).2.2 ≠ 0 → (scanGo l m b acc).1 = [] ∧ 0 ≤ (scanGo l m b acc).2.1 ∧ (scanGo l m b acc).2.1 ≤ l.length
  | 0, _, _, _, h => by simp [scanGo] at h
  | m + 1, b, acc, hb, h => by
    unfold scanGo at h ⊢
    by_cases hlt : b < l.length
    · rw [if_pos hlt] at h ⊢
      by_cases hbl : isBlank (rd l b) = true
      · rw [if_pos hbl] at h ⊢
        exact scanGo_bad l m (b + 1) acc (by omega) h
      · rw [if_neg hbl] at h ⊢
        by_cases h35 : rd l b = 35
        · rw [if_pos h35] at h ⊢
          have := runLen_le 24 (l.drop b)
          rw [List.length_drop] at this
          exact scanGo_bad l m _ acc (by omega) h
        · rw [if_neg h35] at h ⊢
          by_cases h5 : (tokenOf (l.drop b)).2.2.2.2 = 0
          · rw [if_pos h5] at h ⊢
            obtain ⟨n, hn, hn1, hn2⟩ := tokenOf_len (l.drop b) (by rw [List.length_drop]; omega) h5
            rw [List.length_drop] at hn2
            have hn' : (tokenOf (l.drop b)).2.2.1.toNat = n := by rw [hn]; rfl
            rw [hn'] at h ⊢
            exact scanGo_bad l m (b + n) _ (by omega) h
          · rw [if_neg h5] at h ⊢
            exact ⟨rfl, Int.natCast_nonneg b, by show (b : Int) ≤ _; omega⟩
    · rw [if_neg hlt] at h
      simp at h
theorem scanAll_toks (l : List Int) (h : (scanAll l).2.2 = 0) : ∃ ts, scanAll l = (ts, 0, 0) ∧ Toks l 0 ts := by
  unfold scanAll at h ⊢
  split
  · rename_i a; rw [if_pos a] at h; simp at h
  · rename_i a
    rw [if_neg a] at h
    obtain ⟨ts, h1, h2⟩ := scanGo_toks l (l.length + 1) 0 0 [] (by omega) (Gap.refl l 0 (by omega)) h
    exact ⟨ts, by simpa using h1, h2⟩
theorem scanAll_bad (l : List Int) (h : (scanAll l).2.2 ≠ 0) : (scanAll l).1 = [] ∧ 0 ≤ (scanAll l).2.1 ∧ (scanAll l).2.1 ≤ l.length := by
  unfold scanAll at h ⊢
  split
  · refine ⟨rfl, by simp, ?_⟩
    simp
    omega
  · rename_i a
    rw [if_neg a] at h
    exact scanGo_bad l _ 0 [] (by omega) h

/-! ### a token, alone -/
theorem runLen_take (F : Nat) (x : List Int) (n : Nat) (h : runLen F x ≤ n) : runLen F (x.take n) = runLen F x := by
  unfold runLen at h ⊢
  congr 1
  induction x generalizing n with
  | nil => simp
  | cons c x ih =>
    by_cases hc : predOf F c = true
    · rw [List.takeWhile_cons_of_pos hc] at h ⊢
      obtain ⟨m, rfl⟩ : ∃ m, n = m + 1 := ⟨n - 1, by simp at h; omega⟩
      rw [List.take_succ_cons, List.takeWhile_cons_of_pos hc, ih m (by simpa using h)]
    · rw [List.takeWhile_cons_of_neg hc]
      cases n with
      | zero => rfl
      | succ m => rw [List.take_succ_cons, List.takeWhile_cons_of_neg hc]
theorem rd_take (x : List Int) (n i : Nat) (h : i < n) : rd (x.take n) i = rd x i := by
  simp [rd, h]
theorem take_take_min (x : List Int) (n m : Nat) (h : m ≤ n) : (x.take n).take m = x.take m := by
  rw [List.take_take, Nat.min_eq_left h]
theorem wordOf_take (x : List Int) : wordOf (x.take (runLen 39 x)) = wordOf x := by
  unfold wordOf
  rw [runLen_take 39 x _ (Nat.le_refl _), take_take_min _ _ _ (Nat.le_refl _)]
theorem numberOf_take (x : List Int) (h0 : 1 ≤ runLen 36 x) (h : (numberOf x).2.2.2.2 = 0) : numberOf (x.take (runLen 36 x)) = numberOf x := by
  have hle := runLen_le 36 x
  unfold numberOf at h ⊢
  rw [runLen_take 36 x _ (Nat.le_refl _), take_take_min _ _ _ (Nat.le_refl _)]
  by_cases hb : numBad x = true
  · rw [if_pos hb] at h; simp at h
  · rw [if_neg hb] at h ⊢
    rw [if_neg]
    intro hc
    apply hb
    unfold numBad at hc ⊢
    rw [runLen_take 36 x _ (Nat.le_refl _), List.length_take, Nat.min_eq_left hle] at hc
    have e := rd_take x (runLen 36 x) 0 (by omega)
    simp only [Bool.or_eq_true, Bool.and_eq_true, decide_eq_true_eq, beq_iff_eq] at hc ⊢
    rcases hc with hc | hc
    · exact .inl ⟨hc.1, by rw [← hc.2]; exact e.symm⟩
    · omega
theorem signFind_hit (x : List Int) : ∀ n : Nat, (signFind x n).2.2.2.2 = 0 → ∃ m : Nat, 1 ≤ m ∧ m ≤ n ∧ kindOf (strOfNums (x.take m)) ≠ 0 ∧ signFind x n = (kindOf (strOfNums (x.take m)), 0, (m : Int), 0, 0)
  | 0, h => by simp [signFind] at h
  | n + 1, h => by
    unfold signFind at h ⊢
    split
    · rename_i a
      rw [if_pos a] at h
      obtain ⟨m, h1, h2, h3, h4⟩ := signFind_hit x n h
      exact ⟨m, h1, by omega, h3, h4⟩
    · rename_i a
      exact ⟨n + 1, by omega, by omega, a, rfl⟩
theorem signOf_hit (x : List Int) (h : (signOf x).2.2.2.2 = 0) : ∃ m : Nat, 1 ≤ m ∧ m ≤ x.length ∧ m ≤ 3 ∧ kindOf (strOfNums (x.take m)) ≠ 0 ∧ signOf x = (kindOf (strOfNums (x.take m)), 0, (m : Int), 0, 0) := by
  unfold signOf at h ⊢
  obtain ⟨m, h1, h2, h3, h4⟩ := signFind_hit x _ h
  exact ⟨m, h1, by split at h2 <;> omega, by split at h2 <;> omega, h3, h4⟩
theorem signOf_take (x : List Int) (m : Nat) (h1 : 1 ≤ m) (h2 : m ≤ x.length) (h3 : m ≤ 3) (h4 : kindOf (strOfNums (x.take m)) ≠ 0) : signOf (x.take m) = (kindOf (strOfNums (x.take m)), 0, (m : Int), 0, 0) := by
  unfold signOf
  rw [List.length_take, Nat.min_eq_left h2]
  have : (if m < 3 then m else 3) = m := by split <;> omega
  rw [this, signFind_yes (x.take m) m _ (by omega) rfl (by rw [take_take_min _ _ _ (Nat.le_refl _)]; exact h4), take_take_min _ _ _ (Nat.le_refl _)]
theorem tokenOf_take (x : List Int) (k y : Int) (n : Nat) (v : Int) (hx : 0 < x.length) (h : tokenOf x = (k, y, (n : Int), v, 0)) : tokenOf (x.take n) = (k, y, (n : Int), v, 0) := by
  obtain ⟨n', hn, hn1, hn2⟩ := tokenOf_len x hx (by rw [h])
  obtain rfl : n = n' := by rw [h] at hn; simp only at hn; omega
  unfold tokenOf at h ⊢
  have hr : rd (x.take n) 0 = rd x 0 := rd_take x n 0 (by omega)
  rw [hr]
  by_cases hl : isLetter (rd x 0) = true
  · rw [if_pos hl] at h ⊢
    have : n = runLen 39 x := by
      have e := congrArg (fun t => t.2.2.1) h
      unfold wordOf at h e
      split at e
      · split at e
        · rename_i a b; rw [if_pos a, if_pos b] at h; simp at h
        · simp at e; omega
      · simp at e; omega
    rw [this, wordOf_take, h, ← this]
  · rw [if_neg hl] at h ⊢
    by_cases hd : isDigit (rd x 0) = true
    · rw [if_pos hd] at h ⊢
      have : n = runLen 36 x := by
        have e := congrArg (fun t => t.2.2.1) h
        unfold numberOf at h e
        split at e
        · rename_i a; rw [if_pos a] at h; simp at h
        · rename_i a
          rw [if_neg a] at h
          cases hf : numFold (x.take (runLen 36 x)) 0 with
          | none => rw [hf] at h; simp at h
          | some u => rw [hf] at e; simp at e; omega
      rw [this, numberOf_take x (by omega) (by rw [h]), h, ← this]
    · rw [if_neg hd] at h ⊢
      obtain ⟨m, h1, h2, h3, h4, h5⟩ := signOf_hit x (by rw [h])
      rw [h5] at h
      obtain rfl : m = n := by
        have := congrArg (fun t => t.2.2.1) h
        simp only at this
        omega
      rw [signOf_take x m h1 h2 h3 h4, h]
/-- What a token's text and number are. -/
theorem tokenOf_text (x : List Int) (k y : Int) (n : Nat) (v : Int) (h : tokenOf x = (k, y, (n : Int), v, 0)) : (10 ≤ k → k = kindOf (strOfNums (x.take n)) ∧ k ≠ 0) ∧ (k ≠ 2 → v = 0) := by
  unfold tokenOf at h
  split at h
  · unfold wordOf at h
    split at h
    · split at h
      · simp at h
      · simp only [Prod.mk.injEq] at h
        exact ⟨fun hk => by omega, fun _ => h.2.2.2.1.symm⟩
    · rename_i a
      simp only [Prod.mk.injEq] at h
      obtain ⟨h1, _, h3, h4, _⟩ := h
      have : n = runLen 39 x := by omega
      rw [this, h1]
      exact ⟨fun _ => ⟨rfl, by rw [← h1]; exact a⟩, fun _ => h4.symm⟩
  · split at h
    · unfold numberOf at h
      split at h
      · simp at h
      · cases hf : numFold (x.take (runLen 36 x)) 0 with
        | none => rw [hf] at h; simp at h
        | some u =>
          rw [hf] at h
          simp only [Option.elim_some, Prod.mk.injEq] at h
          exact ⟨fun hk => by omega, fun hk => absurd h.1.symm hk⟩
    · obtain ⟨m, h1, h2, h3, h4, h5⟩ := signOf_hit x (by rw [h])
      rw [h5] at h
      simp only [Prod.mk.injEq] at h
      obtain ⟨e1, _, e3, e4, _⟩ := h
      obtain rfl : m = n := by omega
      exact ⟨fun _ => ⟨e1.symm, by rw [← e1]; exact h4⟩, fun _ => e4.symm⟩
/-- A token's own bytes, scanned: that token alone. -/
theorem scanAll_alone (x : List Int) (k y : Int) (n : Nat) (v : Int) (hx : 0 < x.length) (hl : x.length ≤ 65536) (hb : isBlank (rd x 0) = false) (h35 : rd x 0 ≠ 35) (h : tokenOf x = (k, y, (n : Int), v, 0)) :
    scanAll (x.take n) = ([⟨k, 0, n, v⟩], 0, 0) := by
  obtain ⟨n', hn, hn1, hn2⟩ := tokenOf_len x hx (by rw [h])
  obtain rfl : n = n' := by rw [h] at hn; simp only at hn; omega
  have hlen : (x.take n).length = n := by rw [List.length_take]; omega
  have hr : rd (x.take n) (0 : Nat) = rd x 0 := rd_take x n 0 (by omega)
  have ht := tokenOf_take x k y n v hx h
  unfold scanAll
  rw [if_neg (by rw [hlen]; omega), hlen]
  obtain ⟨m, rfl⟩ : ∃ m, n = m + 1 := ⟨n - 1, by omega⟩
  rw [scanGo, if_pos (by rw [hlen]; omega), hr, if_neg (by rw [hb]; simp), if_neg h35, List.drop_zero, ht, if_pos rfl]
  rw [scanGo, if_neg (by rw [hlen]; simp)]
  simp
end Go.Proofs.Ytmingnhhmaclaaa.Given
