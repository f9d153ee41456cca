/- Plain facts on what the scanner answers: two sources one behind the other; the tokens alone with remarks between. No condition. -/
import Derived.Test.YtmingnhhmaclaaaGivenV
namespace Go.Proofs.Ytmingnhhmaclaaa.Given
open Go.RowKit Go.Proofs.YtmingnhhmaclaaaW.PrintWords Go.Proofs.Ytmingnhhmaclaaa.Print

theorem rd_append_left (x z : List Int) (i : Nat) (h : i < x.length) : rd (x ++ z) (i : Nat) = rd x (i : Nat) := by
  simp [rd, List.getElem?_append_left h]
theorem rd_append_at (x z : List Int) (c : Int) : rd (x ++ c :: z) (x.length : Nat) = c := by
  simp [rd]
theorem rd_drop (l : List Int) (b : Nat) : rd (l.drop b) (0 : Nat) = rd l (b : Nat) := by
  simp [rd]
theorem runLen_append (F : Nat) (x z : List Int) (c : Int) (hc : predOf F c = false) : runLen F (x ++ c :: z) = runLen F x := by
  unfold runLen
  induction x with
  | nil => simp [hc]
  | cons d x ih =>
    by_cases hd : predOf F d = true
    · rw [List.cons_append, List.takeWhile_cons_of_pos hd, List.takeWhile_cons_of_pos hd, List.length_cons, List.length_cons, ih]
    · rw [List.cons_append, List.takeWhile_cons_of_neg hd, List.takeWhile_cons_of_neg hd]
theorem take_append_le (x z : List Int) (n : Nat) (h : n ≤ x.length) : (x ++ z).take n = x.take n := by
  rw [List.take_append, Nat.sub_eq_zero_of_le h]
  simp
/-- A byte that parts tokens. -/
def Parts (c : Int) : Prop := c = 9 ∨ c = 10
theorem Parts.is39 {c : Int} (h : Parts c) : predOf 39 c = false := by rcases h with rfl | rfl <;> decide
theorem Parts.is36 {c : Int} (h : Parts c) : predOf 36 c = false := by rcases h with rfl | rfl <;> decide
theorem Parts.letter {c : Int} (h : Parts c) : isLetter c = false := by rcases h with rfl | rfl <;> decide
theorem texts_none : ∀ k : Nat, k < 68 → (9 : UInt8) ∉ (textOf k).toList ∧ (10 : UInt8) ∉ (textOf k).toList := by decide +kernel
theorem kindOf_le (t : ByteArray) : ∃ k : Nat, kindOf t = k ∧ k < 68 := by
  unfold kindOf
  split
  · exact ⟨0, rfl, by omega⟩
  · exact ⟨_, rfl, by have := kindFind_lt t 67 0; omega⟩
theorem kindOf_parts (x : List Int) (c : Int) (hc : Parts c) (hm : c ∈ x) : kindOf (strOfNums x) = 0 := by
  apply Classical.byContradiction
  intro h
  have ht := kindOf_text _ h
  obtain ⟨k, hk, hk2⟩ := kindOf_le (strOfNums x)
  rw [hk] at ht
  have hn := texts_none k hk2
  rw [ht, ByteArray.toList_eq, strOfNums_data] at hn
  rcases hc with rfl | rfl
  · exact hn.1 (List.mem_map.2 ⟨9, hm, rfl⟩)
  · exact hn.2 (List.mem_map.2 ⟨10, hm, rfl⟩)
theorem parts_mem_take (x z : List Int) (c : Int) (n : Nat) (h : x.length < n) : c ∈ (x ++ c :: z).take n := by
  rw [List.take_append, List.mem_append]
  right
  obtain ⟨m, hm⟩ : ∃ m, n - x.length = m + 1 := ⟨n - x.length - 1, by omega⟩
  rw [hm, List.take_succ_cons]
  exact List.mem_cons_self
theorem signFind_append (x z : List Int) (c : Int) (hc : Parts c) : ∀ n : Nat, signFind (x ++ c :: z) n = signFind x (if n < x.length then n else x.length)
  | 0 => by
    split
    · rfl
    · rename_i a
      have : x.length = 0 := by omega
      rw [this]; rfl
  | n + 1 => by
    have ih := signFind_append x z c hc n
    by_cases h : n + 1 ≤ x.length
    · have e : (if n + 1 < x.length then n + 1 else x.length) = n + 1 := by split <;> omega
      have e2 : (if n < x.length then n else x.length) = n := by split <;> omega
      rw [e2] at ih
      rw [e, signFind, signFind, take_append_le _ _ _ h, ih]
    · have e : (if n + 1 < x.length then n + 1 else x.length) = x.length := by split <;> omega
      have e2 : (if n < x.length then n else x.length) = x.length := by split <;> omega
      rw [e2] at ih
      rw [e, signFind, if_pos (kindOf_parts _ c hc (parts_mem_take x z c _ (by omega))), ih]
theorem signOf_append (x z : List Int) (c : Int) (hc : Parts c) : signOf (x ++ c :: z) = signOf x := by
  unfold signOf
  rw [signFind_append x z c hc]
  congr 1
  simp only [List.length_append, List.length_cons]
  split <;> split <;> split <;> omega
theorem numberOf_append (x z : List Int) (c : Int) (hc : Parts c) (h0 : 0 < x.length) : numberOf (x ++ c :: z) = numberOf x := by
  have hb : numBad (x ++ c :: z) = numBad x := by
    unfold numBad
    rw [runLen_append 36 x z c hc.is36]
    have hle := runLen_le 36 x
    have e0 := rd_append_left x (c :: z) 0 h0
    have e0' : rd (x ++ c :: z) 0 = rd x 0 := e0
    rw [e0']
    congr 1
    by_cases h : runLen 36 x < x.length
    · rw [rd_append_left x (c :: z) _ h]
      congr 1
      simp only [List.length_append, List.length_cons, decide_eq_decide]
      omega
    · have e : runLen 36 x = x.length := by omega
      rw [e, rd_append_at, hc.letter]
      simp
  unfold numberOf
  rw [hb, runLen_append 36 x z c hc.is36, take_append_le _ _ _ (runLen_le 36 x)]
theorem wordOf_append (x z : List Int) (c : Int) (hc : Parts c) : wordOf (x ++ c :: z) = wordOf x := by
  unfold wordOf
  rw [runLen_append 39 x z c hc.is39, take_append_le _ _ _ (runLen_le 39 x)]
theorem tokenOf_append (x z : List Int) (c : Int) (hc : Parts c) (hx : 0 < x.length) : tokenOf (x ++ c :: z) = tokenOf x := by
  unfold tokenOf
  have e0 : rd (x ++ c :: z) 0 = rd x 0 := rd_append_left x (c :: z) 0 hx
  rw [e0, wordOf_append x z c hc, numberOf_append x z c hc hx, signOf_append x z c hc]

/-! ### a source's tokens, read from the front -/
inductive Run : List Int → Nat → List S40 → Prop
  | done (p : Nat) : Run [] p []
  | blank (c : Int) (x : List Int) (p : Nat) (ts : List S40) : isBlank c = true → Run x (p + 1) ts → Run (c :: x) p ts
  | remark (x : List Int) (p : Nat) (ts : List S40) : Run ((35 :: x).drop (runLen 24 (35 :: x))) (p + runLen 24 (35 :: x)) ts → Run (35 :: x) p ts
  | tok (c : Int) (x : List Int) (p : Nat) (k : Int) (n : Nat) (v y : Int) (ts : List S40) : isBlank c = false → c ≠ 35 → tokenOf (c :: x) = (k, y, (n : Int), v, 0) → 1 ≤ n → n ≤ x.length + 1 → Run ((c :: x).drop n) (p + n) ts → Run (c :: x) p (⟨k, p, n, v⟩ :: ts)

theorem drop_cons_rd (l : List Int) (b : Nat) (h : b < l.length) : l.drop b = rd l (b : Nat) :: l.drop (b + 1) := by
  rw [List.drop_eq_getElem_cons h]
  simp [rd, List.getElem?_eq_getElem h]
theorem scanGo_run (l : List Int) : ∀ (m b : Nat) (acc : List S40), l.length - b < m → b ≤ l.length → (scanGo l m b acc).2.2 = 0 →
    ∃ ts, scanGo l m b acc = (acc ++ ts, 0, 0) ∧ Run (l.drop b) b ts
  | 0, _, _, h, _, _ => by omega
  | m + 1, b, acc, hm, hg, h => by
    unfold scanGo at h ⊢
    by_cases hlt : b < l.length
    · have hd := drop_cons_rd l b hlt
      rw [if_pos hlt] at h ⊢
      by_cases hbl : isBlank (rd l b) = true
      · rw [if_pos hbl] at h ⊢
        obtain ⟨ts, h1, h2⟩ := scanGo_run l m (b + 1) acc (by omega) (by omega) h
        exact ⟨ts, h1, hd ▸ Run.blank _ _ _ _ hbl h2⟩
      · rw [if_neg hbl] at h ⊢
        by_cases h35 : rd l b = 35
        · rw [if_pos h35] at h ⊢
          have h1 := runLen_pos 24 (l.drop b) (by rw [List.length_drop]; omega) (by
            have e : rd (l.drop b) 0 = rd l b := rd_drop l b
            rw [e, h35]; rfl)
          have h2 := runLen_le 24 (l.drop b)
          rw [List.length_drop] at h2
          obtain ⟨ts, e1, e2⟩ := scanGo_run l m _ acc (by omega) (by omega) h
          refine ⟨ts, e1, ?_⟩
          rw [← List.drop_drop] at e2
          rw [hd, h35] at e2 ⊢
          exact Run.remark _ _ _ e2
        · rw [if_neg h35] at h ⊢
          by_cases h5 : (tokenOf (l.drop b)).2.2.2.2 = 0
          · rw [if_pos h5] at h ⊢
            obtain ⟨n, hn, hn1, hn2⟩ := tokenOf_len (l.drop b) (by rw [List.length_drop]; omega) h5
            rw [List.length_drop] at hn2
            have hn' : (tokenOf (l.drop b)).2.2.1.toNat = n := by rw [hn]; rfl
            rw [hn'] at h ⊢
            obtain ⟨ts, he, ht⟩ := scanGo_run l m (b + n) _ (by omega) (by omega) h
            refine ⟨⟨(tokenOf (l.drop b)).1, b, (tokenOf (l.drop b)).2.2.1, (tokenOf (l.drop b)).2.2.2.1⟩ :: ts, ?_, ?_⟩
            · rw [he]; simp
            · rw [← List.drop_drop] at ht
              rw [hn]
              have hy : tokenOf (l.drop b) = ((tokenOf (l.drop b)).1, (tokenOf (l.drop b)).2.1, (n : Int), (tokenOf (l.drop b)).2.2.2.1, 0) := by rw [← hn, ← h5]
              rw [hd] at ht hy ⊢
              exact Run.tok _ _ b _ n _ _ ts (by simpa using hbl) h35 hy hn1 (by rw [List.length_drop]; omega) ht
          · rw [if_neg h5] at h
            exact absurd h h5
    · rw [if_neg hlt] at h ⊢
      obtain rfl : b = l.length := by omega
      exact ⟨[], by simp, by rw [List.drop_length]; exact Run.done _⟩
theorem run_scanGo (l : List Int) : ∀ (m b : Nat) (acc ts : List S40), l.length - b < m → b ≤ l.length → Run (l.drop b) b ts → scanGo l m b acc = (acc ++ ts, 0, 0)
  | 0, _, _, _, h, _, _ => by omega
  | m + 1, b, acc, ts, hm, hg, h => by
    unfold scanGo
    by_cases hlt : b < l.length
    · have hd := drop_cons_rd l b hlt
      rw [if_pos hlt]
      rw [hd] at h
      generalize hc : rd l (b : Nat) = c at h hd
      generalize hx : l.drop (b + 1) = x at h hd
      have hlx : x.length + 1 = l.length - b := by rw [← hx, List.length_drop]; omega
      cases h with
      | blank _ _ _ _ hb hr =>
        rw [if_pos hb]
        exact run_scanGo l m (b + 1) acc ts (by omega) (by omega) (hx ▸ hr)
      | remark _ _ _ hr =>
        have h1 := runLen_pos 24 (35 :: x) (by simp) rfl
        have h2 := runLen_le 24 (35 :: x)
        rw [List.length_cons] at h2
        rw [if_neg (by decide), if_pos rfl, hd]
        refine run_scanGo l m _ acc ts (by omega) (by omega) ?_
        rw [← List.drop_drop, hd]
        exact hr
      | tok _ _ _ k n v y ts hb h35 ht hn hn2 hr =>
        rw [if_neg (by rw [hb]; simp), if_neg h35, hd, ht, if_pos rfl]
        have := run_scanGo l m (b + n) (acc ++ [⟨k, b, n, v⟩]) ts (by omega) (by omega) (by rw [← List.drop_drop, hd]; exact hr)
        simp only [Int.toNat_natCast]
        rw [this]
        simp
    · rw [if_neg hlt]
      obtain rfl : b = l.length := by omega
      rw [List.drop_length] at h
      cases h
      simp
theorem scanAll_run (l : List Int) (h : (scanAll l).2.2 = 0) : ∃ ts, scanAll l = (ts, 0, 0) ∧ Run l 0 ts ∧ l.length ≤ 65536 := by
  unfold scanAll at h ⊢
  split
  · rename_i a; rw [if_pos a] at h; simp at h
  · rename_i a
    rw [if_neg a] at h
    obtain ⟨ts, h1, h2⟩ := scanGo_run l (l.length + 1) 0 [] (by omega) (by omega) h
    exact ⟨ts, by simpa using h1, by simpa using h2, by omega⟩
theorem run_scanAll (l : List Int) (ts : List S40) (hl : l.length ≤ 65536) (h : Run l 0 ts) : scanAll l = (ts, 0, 0) := by
  unfold scanAll
  rw [if_neg (by omega), run_scanGo l _ 0 [] ts (by omega) (by omega) (by simpa using h)]
  simp

/-! ### shifted, joined -/
def shiftT (s : Nat) (t : S40) : S40 := ⟨t.f0, t.f1 + s, t.f2, t.f3⟩
theorem Run.shift {x : List Int} {p : Nat} {ts : List S40} (s : Nat) (h : Run x p ts) : Run x (p + s) (ts.map (shiftT s)) := by
  induction h with
  | done p => exact Run.done _
  | blank c x p ts hb _ ih => exact Run.blank c x _ _ hb (by rw [show p + s + 1 = p + 1 + s by omega]; exact ih)
  | remark x p ts _ ih => exact Run.remark x _ _ (by rw [show p + s + runLen 24 (35 :: x) = p + runLen 24 (35 :: x) + s by omega]; exact ih)
  | tok c x p k n v y ts hb h35 ht h1 h2 _ ih =>
    have := Run.tok c x (p + s) k n v y (ts.map (shiftT s)) hb h35 ht h1 h2 (by rw [show p + s + n = p + n + s by omega]; exact ih)
    simpa [shiftT] using this
theorem Run.join {x z : List Int} {p : Nat} {ts us : List S40} (h : Run x p ts) (hz : Run (10 :: z) (p + x.length) us) : Run (x ++ 10 :: z) p (ts ++ us) := by
  induction h with
  | done p => simpa using hz
  | blank c x p ts hb _ ih =>
    refine Run.blank c _ _ _ hb (ih ?_)
    rw [show p + 1 + x.length = p + (c :: x).length by simp; omega]
    exact hz
  | remark x p ts _ ih =>
    have hl := runLen_le 24 (35 :: x)
    have e : runLen 24 (35 :: (x ++ 10 :: z)) = runLen 24 (35 :: x) := runLen_append 24 (35 :: x) z 10 rfl
    refine Run.remark _ _ _ ?_
    show Run ((35 :: (x ++ 10 :: z)).drop (runLen 24 (35 :: (x ++ 10 :: z)))) (p + runLen 24 (35 :: (x ++ 10 :: z))) (ts ++ us)
    rw [e]
    have e2 : (35 :: (x ++ 10 :: z)).drop (runLen 24 (35 :: x)) = (35 :: x).drop (runLen 24 (35 :: x)) ++ 10 :: z := List.drop_append_of_le_length (l₁ := 35 :: x) hl
    rw [e2]
    refine ih ?_
    rw [List.length_drop, show p + runLen 24 (35 :: x) + ((35 :: x).length - runLen 24 (35 :: x)) = p + (35 :: x).length by omega]
    exact hz
  | tok c x p k n v y ts hb h35 ht h1 h2 _ ih =>
    refine Run.tok c _ p k n v y _ hb h35 ?_ h1 (by simp; omega) ?_
    · exact (tokenOf_append (c :: x) z 10 (.inr rfl) (by simp)).trans ht
    · have e2 : (c :: (x ++ 10 :: z)).drop n = (c :: x).drop n ++ 10 :: z := List.drop_append_of_le_length (l₁ := c :: x) (by simpa using h2)
      show Run ((c :: (x ++ 10 :: z)).drop n) (p + n) (ts ++ us)
      rw [e2]
      refine ih ?_
      rw [List.length_drop, show p + n + ((c :: x).length - n) = p + (c :: x).length by simp; omega]
      exact hz
theorem Run.blanks {x : List Int} {ts : List S40} : ∀ (m p : Nat), Run x (p + m) ts → Run (List.replicate m 32 ++ x) p ts
  | 0, p, h => by simpa using h
  | m + 1, p, h => by
    rw [List.replicate_succ, List.cons_append]
    exact Run.blank 32 _ _ _ rfl (Run.blanks m (p + 1) (by rw [show p + 1 + m = p + (m + 1) by omega]; exact h))
/-- One behind the other. -/
theorem scanAll_join (x y : List Int) (m : Nat) (h1 : (scanAll x).2.2 = 0) (h2 : (scanAll y).2.2 = 0) (hl : (x ++ 10 :: (List.replicate m 32 ++ y)).length ≤ 65536) :
    scanAll (x ++ 10 :: (List.replicate m 32 ++ y)) = ((scanAll x).1 ++ (scanAll y).1.map (shiftT (x.length + 1 + m)), 0, 0) := by
  obtain ⟨ts, e1, r1, _⟩ := scanAll_run x h1
  obtain ⟨us, e2, r2, _⟩ := scanAll_run y h2
  rw [e1, e2]
  refine run_scanAll _ _ hl (r1.join (Run.blank 10 _ _ _ rfl (Run.blanks m _ ?_)))
  have := r2.shift (x.length + 1 + m)
  simpa [Nat.add_assoc] using this

/-! ### the tokens alone, remarks between them -/
def Good (l : List Int) (t : S40) : Prop := ∃ (p : Nat) (k : Int) (n : Nat) (v y : Int), t = ⟨k, p, n, v⟩ ∧ p < l.length ∧ isBlank (rd l p) = false ∧ rd l p ≠ 35 ∧ tokenOf (l.drop p) = (k, y, (n : Int), v, 0) ∧ 1 ≤ n ∧ p + n ≤ l.length
theorem Toks.good {l : List Int} {a : Nat} {ts : List S40} (h : Toks l a ts) : ∀ t ∈ ts, Good l t := by
  induction h with
  | done a _ => simp
  | cons a p k n v y ts _ h1 h2 h3 h4 h5 h6 _ ih =>
    intro t ht
    rcases List.mem_cons.1 ht with rfl | ht
    · exact ⟨p, k, n, v, y, rfl, h1, h2, h3, h4, h5, h6⟩
    · exact ih t ht
def textAt (l : List Int) (t : S40) : List Int := (l.take (t.f1 + t.f2).toNat).drop t.f1.toNat
def wideT (l : List Int) (t : S40) : List Int := [9, 35, 32, 59, 10] ++ textAt l t
def wideOf (l : List Int) (ts : List S40) : List Int := ts.flatMap (wideT l)
theorem Toks.wide_len {l : List Int} {a : Nat} {ts : List S40} (h : Toks l a ts) : (wideOf l ts).length ≤ 6 * (l.length - a) ∧ ts.length ≤ l.length - a := by
  induction h with
  | done a _ => simp [wideOf]
  | cons a p k n v y ts hg h1 h2 h3 h4 h5 h6 _ ih =>
    have h7 := hg.1
    obtain ⟨i1, i2⟩ := ih
    have e : (wideT l ⟨k, p, n, v⟩).length = 5 + n := by
      have e1 : ((p : Int) + (n : Int)).toNat = p + n := by omega
      simp only [wideT, textAt, e1, Int.toNat_natCast, List.length_append, List.length_cons, List.length_nil, List.length_drop, List.length_take]
      omega
    simp only [wideOf, List.flatMap_cons, List.length_append, List.length_cons] at i1 ⊢
    rw [e]
    omega
theorem wide_snoc (l : List Int) (ts : List S40) (q : Nat) (t : S40) (h : ts[q]? = some t) : wideOf l (ts.take (q + 1)) = wideOf l (ts.take q) ++ wideT l t := by
  obtain ⟨hl, rfl⟩ := List.getElem?_eq_some_iff.1 h
  rw [List.take_succ_eq_append_getElem hl]
  simp only [wideOf, List.flatMap_append, List.flatMap_cons, List.flatMap_nil, List.append_nil]
theorem wide_take (l : List Int) (ts : List S40) (q : Nat) : (wideOf l (ts.take q)).length ≤ (wideOf l ts).length := by
  have h : wideOf l ts = wideOf l (ts.take q) ++ wideOf l (ts.drop q) := by
    simp only [wideOf, ← List.flatMap_append, List.take_append_drop]
  rw [h, List.length_append]
  omega
def Like (t u : S40) : Prop := u.f0 = t.f0 ∧ u.f2 = t.f2 ∧ u.f3 = t.f3
theorem wide_run (l : List Int) : ∀ (ts : List S40) (q : Nat), (∀ t ∈ ts, Good l t) → ∃ us : List S40, Run (wideOf l ts) q us ∧ us.length = ts.length ∧ ∀ (i : Nat) (t u : S40), ts[i]? = some t → us[i]? = some u → Like t u
  | [], q, _ => ⟨[], Run.done _, rfl, by simp⟩
  | t :: ts, q, h => by
    obtain ⟨p, k, n, v, y, rfl, h1, h2, h3, h4, h5, h6⟩ := h t (by simp)
    obtain ⟨us, r, hl, hi⟩ := wide_run l ts (q + 5 + n) (fun u hu => h u (by simp [hu]))
    refine ⟨⟨k, (q + 5 : Nat), n, v⟩ :: us, ?_, by simp [hl], ?_⟩
    · have e1 : ((p : Int) + (n : Int)).toNat = p + n := by omega
      have ex : textAt l ⟨k, p, n, v⟩ = (l.drop p).take n := by
        simp only [textAt, e1, Int.toNat_natCast, List.take_add]
        rw [List.drop_append_of_le_length (by rw [List.length_take]; omega)]
        have : (l.take p).drop p = [] := by rw [List.drop_eq_nil_iff, List.length_take]; omega
        rw [this, List.nil_append]
      have hxl : ((l.drop p).take n).length = n := by rw [List.length_take, List.length_drop]; omega
      have ht := tokenOf_take (l.drop p) k y n v (by rw [List.length_drop]; omega) h4
      have hr : rd ((l.drop p).take n) (0 : Nat) = rd l p := by
        have := rd_take (l.drop p) n 0 (by omega)
        rw [this]; exact rd_drop l p
      have hw : wideOf l (⟨k, p, n, v⟩ :: ts) = 9 :: 35 :: 32 :: 59 :: 10 :: ((l.drop p).take n ++ wideOf l ts) := by
        simp only [wideOf, List.flatMap_cons, wideT, ex]
        rfl
      rw [hw]
      refine Run.blank 9 _ _ _ rfl (Run.remark _ _ _ ?_)
      have e3 : runLen 24 (35 :: 32 :: 59 :: 10 :: ((l.drop p).take n ++ wideOf l ts)) = 3 := rfl
      rw [e3]
      refine Run.blank 10 _ _ _ rfl ?_
      generalize hx : (l.drop p).take n = x at ht hr hxl
      cases x with
      | nil => simp at hxl; omega
      | cons c x =>
        have hc : c = rd l p := by rw [← hr]; rfl
        have hq : q + 1 + 3 + 1 = q + 5 := by omega
        have ht2 : tokenOf (c :: x ++ wideOf l ts) = (k, y, (n : Int), v, 0) := by
          cases ts with
          | nil => simpa [wideOf] using ht
          | cons t2 ts2 =>
            have : wideOf l (t2 :: ts2) = 9 :: ([35, 32, 59, 10] ++ textAt l t2 ++ wideOf l ts2) := by simp [wideOf, wideT]
            rw [this]
            exact (tokenOf_append (c :: x) _ 9 (.inl rfl) (by simp)).trans ht
        show Run (c :: (x ++ wideOf l ts)) (q + 1 + 3 + 1) _
        rw [hq]
        refine Run.tok c _ (q + 5) k n v y us (by rw [hc]; exact h2) (by rw [hc]; exact h3) ht2 h5 (by simp at hxl ⊢; omega) ?_
        have e4 : (c :: (x ++ wideOf l ts)).drop n = wideOf l ts := by
          have : c :: (x ++ wideOf l ts) = (c :: x) ++ wideOf l ts := rfl
          rw [this, List.drop_append, List.drop_eq_nil_iff.2 (by omega), hxl]
          simp
        rw [e4]
        exact r
    · intro i t u ht hu
      cases i with
      | zero =>
        simp at ht hu
        subst ht hu
        exact ⟨rfl, rfl, rfl⟩
      | succ i => exact hi i t u (by simpa using ht) (by simpa using hu)
/-- What stands between the tokens is not seen. -/
theorem scanAll_wide (l : List Int) (ts : List S40) (hT : Toks l 0 ts) (hl : (wideOf l ts).length ≤ 65536) :
    ∃ us : List S40, scanAll (wideOf l ts) = (us, 0, 0) ∧ us.length = ts.length ∧ ∀ (i : Nat) (t u : S40), ts[i]? = some t → us[i]? = some u → Like t u := by
  obtain ⟨us, r, h1, h2⟩ := wide_run l ts 0 hT.good
  exact ⟨us, run_scanAll _ _ hl r, h1, h2⟩

end Go.Proofs.Ytmingnhhmaclaaa.Given
