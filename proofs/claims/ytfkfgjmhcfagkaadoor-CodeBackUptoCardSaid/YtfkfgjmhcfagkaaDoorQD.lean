/- Lemmas for the claim (what no proof of it names is left out). -/
import Derived.Test.YtfkfgjmhcfagkaaDoorQC
import Derived.Test.YtfkfgjmhcfagkaaDoorQA
section
namespace Go.Proofs.YtfkfgjmhcfagkaaDoor.Given
open Go.RowKit Go.Proofs.YtfkfgjmhcfagkaaDoorW.PrintWords Go.Proofs.YtfkfgjmhcfagkaaDoorW.PrintLast Go.Proofs.YtfkfgjmhcfagkaaDoorW.PrintMore Go.Proofs.YtfkfgjmhcfagkaaDoor.Print
set_option linter.unusedVariables false
set_option linter.unusedSimpArgs false
def cap (n : Nat) : Int := if n ≤ 2147483647 then (n : Int) else 2147483648
theorem more_cap (a b : Nat) : squintlaw08_more.f (cap a) (cap b) = some (cap (a + b)) := by
  unfold squintlaw08_more.f cap
  by_cases h1 : a ≤ 2147483647
  · rw [if_pos h1, if_neg (by omega), show wrap64 (2147483647 - (a : Int)) = 2147483647 - (a : Int) by simp only [wrap64]; omega]
    by_cases h2 : b ≤ 2147483647
    · rw [if_pos h2]
      by_cases h3 : a + b ≤ 2147483647
      · rw [if_pos h3, if_neg (by omega), show wrap64 ((a : Int) + (b : Int)) = ((a + b : Nat) : Int) by simp only [wrap64]; omega]
      · rw [if_neg h3, if_pos (by omega)]
    · rw [if_neg h2, if_pos (by omega), if_neg (by omega)]
  · rw [if_neg h1, if_pos (by omega), if_neg (by omega)]
theorem many_cap (n : Nat) : squintlaw08_many.f (n : Int) = some (cap (n * 21)) := by
  unfold squintlaw08_many.f cap
  by_cases h1 : n ≤ 102261126
  · rw [if_neg (by omega), if_pos (by omega), show wrap64 ((n : Int) * 21) = ((n * 21 : Nat) : Int) by simp only [wrap64]; omega]
  · rw [if_pos (by omega), if_neg (by omega)]
theorem cap_le (a : Nat) : (cap a ≤ 2147483647) = (a ≤ 2147483647) := by
  unfold cap
  split <;> simp <;> omega
theorem cap_gt (a : Nat) : (cap a > 2147483647) = (¬ a ≤ 2147483647) := by
  unfold cap
  split <;> simp <;> omega
theorem cap_over {a b : Nat} (h : ¬ a ≤ 2147483647) : cap (a + b) = cap a := by
  unfold cap
  rw [if_neg h, if_neg (by omega)]
def tsz : List S54 → Nat
  | [] => 0
  | t :: l => 40 + t.f1.length * 21 + tsz l
def isz : List S28 → Nat
  | [] => 0
  | x :: l => 60 + x.f3.length * 21 + isz l
def psz : List S57 → Nat
  | [] => 0
  | p :: l => 100 + isz p.f4 + psz l
theorem beyond_code {ps : List S57} {ts : List S54} {r : Bool} (j : Nat) (hj : j < ps.length) (hm : ps[j].f4.length ≤ 4611686018427387904) : ∀ (n i a : Nat), ps[j].f4.length - i = n → i ≤ ps[j].f4.length →
    (∃ k, squintlaw08_beyond.l1 k (cap (a + isz (ps[j].f4.drop i))) ((j + 1 : Nat) : Int) ps ts = some r) → (hjj : j < 4611686018427387904) → ∃ k, squintlaw08_beyond.l2 k (cap a) (j : Int) (i : Int) ps ts = some r
  | 0, i, a, hn, hi, ⟨k, hk⟩, hjj => by
    have e : i = ps[j].f4.length := by omega
    have er : rd_T57 ps (j : Int) = ps[j] := by simp [rd_T57, hj]
    refine ⟨k + 2, ?_⟩
    unfold squintlaw08_beyond.l2
    rw [if_pos (by omega), if_pos (by omega), er, if_neg (by omega)]
    unfold squintlaw08_beyond.j5
    rw [if_neg (by decide), show wrap64 ((j : Int) + 1) = ((j + 1 : Nat) : Int) by simp only [wrap64]; omega]
    subst e
    simpa [isz] using hk
  | n + 1, i, a, hn, hi, ⟨k, hk⟩, hjj => by
    have hlt : i < ps[j].f4.length := by omega
    have er : rd_T57 ps (j : Int) = ps[j] := by simp [rd_T57, hj]
    by_cases ha : a ≤ 2147483647
    · have ei : rd_T28 ps[j].f4 (i : Int) = ps[j].f4[i] := by simp [rd_T28, hlt]
      rw [List.drop_eq_getElem_cons hlt] at hk
      unfold isz at hk
      obtain ⟨q, hq⟩ := beyond_code (ts := ts) (r := r) j hj hm n (i + 1) (a + 60 + ps[j].f4[i].f3.length * 21) (by omega) (by omega) ⟨k, by rw [← hk]; congr 2; omega⟩ hjj
      refine ⟨q + 2, ?_⟩
      unfold squintlaw08_beyond.l2
      rw [if_pos (by omega), if_pos (by omega), er, if_pos (by omega), decide_eq_true (by rw [cap_le]; exact ha)]
      unfold squintlaw08_beyond.j5
      rw [if_pos rfl, show (60 : Int) = cap 60 by decide, more_cap]
      simp only [Option.bind_some]
      rw [if_pos (by omega), if_pos (by omega), er, if_pos (by omega), if_pos (by omega), ei, many_cap]
      simp only [Option.bind_some]
      rw [more_cap]
      simp only [Option.bind_some]
      rw [show wrap64 ((i : Int) + 1) = ((i + 1 : Nat) : Int) by simp only [wrap64]; omega]
      exact hq
    · rw [cap_over ha] at hk
      refine ⟨k + 2, ?_⟩
      unfold squintlaw08_beyond.l2
      rw [if_pos (by omega), if_pos (by omega), er, if_pos (by omega), decide_eq_false (by rw [cap_le]; exact ha)]
      unfold squintlaw08_beyond.j5
      rw [if_neg (by decide), show wrap64 ((j : Int) + 1) = ((j + 1 : Nat) : Int) by simp only [wrap64]; omega]
      exact hk
theorem beyond_progs {ps : List S57} {ts : List S54} (hm : ∀ p ∈ ps, p.f4.length ≤ 4611686018427387904) (hl : ps.length ≤ 4611686018427387904) : ∀ (n j a : Nat), ps.length - j = n → j ≤ ps.length →
    ∃ k, squintlaw08_beyond.l1 k (cap a) (j : Int) ps ts = some (decide (¬ a + psz (ps.drop j) ≤ 2147483647))
  | 0, j, a, hn, hj => by
    have e : j = ps.length := by omega
    refine ⟨2, ?_⟩
    unfold squintlaw08_beyond.l1
    rw [if_neg (by omega)]
    unfold squintlaw08_beyond.j3
    rw [if_neg (by decide)]
    simp only [cap_gt]
    subst e
    simp [psz]
  | n + 1, j, a, hn, hj => by
    have hlt : j < ps.length := by omega
    by_cases ha : a ≤ 2147483647
    · obtain ⟨k, hk⟩ := beyond_progs (ts := ts) hm hl n (j + 1) (a + 100 + isz ps[j].f4) (by omega) (by omega)
      obtain ⟨q, hq⟩ := beyond_code (ts := ts) j hlt (hm _ (List.getElem_mem hlt)) _ 0 (a + 100) rfl (Nat.zero_le _) ⟨k, by rw [List.drop_zero]; exact hk⟩ (by omega)
      refine ⟨q + 2, ?_⟩
      unfold squintlaw08_beyond.l1
      rw [if_pos (by omega), decide_eq_true (by rw [cap_le]; exact ha)]
      unfold squintlaw08_beyond.j3
      rw [if_pos rfl, show (100 : Int) = cap 100 by decide, more_cap]
      simp only [Option.bind_some]
      rw [List.drop_eq_getElem_cons hlt]
      unfold psz
      rw [show a + (100 + isz ps[j].f4 + psz (ps.drop (j + 1))) = a + 100 + isz ps[j].f4 + psz (ps.drop (j + 1)) by omega]
      exact hq
    · refine ⟨2, ?_⟩
      unfold squintlaw08_beyond.l1
      rw [if_pos (by omega), decide_eq_false (by rw [cap_le]; exact ha)]
      unfold squintlaw08_beyond.j3
      rw [if_neg (by decide)]
      simp only [cap_gt]
      rw [decide_eq_true ha, decide_eq_true (by omega)]
theorem beyond_types {ps : List S57} {ts : List S54} {r : Bool} (hl : ts.length ≤ 4611686018427387904) : ∀ (n j a : Nat), ts.length - j = n → j ≤ ts.length →
    (∃ k, squintlaw08_beyond.l1 k (cap (a + tsz (ts.drop j))) 0 ps ts = some r) → ∃ k, squintlaw08_beyond.l0 k (cap a) (j : Int) ps ts = some r
  | 0, j, a, hn, hj, ⟨k, hk⟩ => by
    have e : j = ts.length := by omega
    refine ⟨k + 2, ?_⟩
    unfold squintlaw08_beyond.l0
    rw [if_neg (by omega)]
    unfold squintlaw08_beyond.j1
    rw [if_neg (by decide)]
    subst e
    simpa [tsz] using hk
  | n + 1, j, a, hn, hj, ⟨k, hk⟩ => by
    have hlt : j < ts.length := by omega
    by_cases ha : a ≤ 2147483647
    · have ei : rd_T54 ts (j : Int) = ts[j] := by simp [rd_T54, hlt]
      rw [List.drop_eq_getElem_cons hlt] at hk
      unfold tsz at hk
      obtain ⟨q, hq⟩ := beyond_types (ps := ps) (r := r) hl n (j + 1) (a + 40 + ts[j].f1.length * 21) (by omega) (by omega) ⟨k, by rw [← hk]; congr 2; omega⟩
      refine ⟨q + 2, ?_⟩
      unfold squintlaw08_beyond.l0
      rw [if_pos (by omega), decide_eq_true (by rw [cap_le]; exact ha)]
      unfold squintlaw08_beyond.j1
      rw [if_pos rfl, show (40 : Int) = cap 40 by decide, more_cap]
      simp only [Option.bind_some]
      rw [if_pos (by omega), if_pos (by omega), ei, many_cap]
      simp only [Option.bind_some]
      rw [more_cap]
      simp only [Option.bind_some]
      rw [show wrap64 ((j : Int) + 1) = ((j + 1 : Nat) : Int) by simp only [wrap64]; omega]
      exact hq
    · rw [cap_over ha] at hk
      refine ⟨k + 2, ?_⟩
      unfold squintlaw08_beyond.l0
      rw [if_pos (by omega), decide_eq_false (by rw [cap_le]; exact ha)]
      unfold squintlaw08_beyond.j1
      rw [if_neg (by decide)]
      exact hk
theorem beyond_says (ps : List S57) (ts : List S54) (hl : ps.length ≤ 4611686018427387904) (hm : ∀ p ∈ ps, p.f4.length ≤ 4611686018427387904) (ht : ts.length ≤ 4611686018427387904) : ∃ k, squintlaw08_beyond.f k ps ts = some (decide (¬ tsz ts + psz ps ≤ 2147483647)) := by
  obtain ⟨k, hk⟩ := beyond_progs (ts := ts) hm hl ps.length 0 (tsz ts) rfl (Nat.zero_le _)
  rw [List.drop_zero] at hk
  obtain ⟨q, hq⟩ := beyond_types (ps := ps) ht ts.length 0 0 rfl (Nat.zero_le _) ⟨k, by rw [List.drop_zero, Nat.zero_add]; exact hk⟩
  exact ⟨q, hq⟩
end Go.Proofs.YtfkfgjmhcfagkaaDoor.Given
end
section
namespace Go.Proofs.YtfkfgjmhcfagkaaDoor.Given
open Go.RowKit Go.Proofs.YtfkfgjmhcfagkaaDoorW.PrintWords Go.Proofs.YtfkfgjmhcfagkaaDoorW.PrintLast Go.Proofs.YtfkfgjmhcfagkaaDoorW.PrintMore Go.Proofs.YtfkfgjmhcfagkaaDoor.Print
set_option linter.unusedVariables false
set_option linter.unusedSimpArgs false
theorem dec_len : ∀ (k u : Nat), u < 10 ^ (k + 1) → (Lib.decDigits u).length ≤ k + 1
  | 0, u, h => by
    rw [Lib.decDigits, dif_pos (by omega)]
    simp
  | k + 1, u, h => by
    rw [Lib.decDigits]
    split
    · simp
    · have := dec_len k (u / 10) (by rw [Nat.pow_succ] at h; omega)
      simp only [List.length_append, List.length_cons, List.length_nil]
      omega
theorem itoa_len (n : Int) (h : Rng n) : (itoaB n).size ≤ 20 := by
  have hs : (itoaB n).size = (Lib.itoa n).length := by simp [itoaB, ByteArray.size]
  rw [hs]
  unfold Lib.itoa
  unfold Rng at h
  split
  · have := dec_len 18 n.natAbs (by omega)
    simp only [List.length_cons]
    omega
  · have := dec_len 18 n.toNat (by omega)
    omega
theorem words_len : ∀ (ns : List Int) (w : ByteArray), (∀ n ∈ ns, Rng n) → (wordsOf w ns).size ≤ w.size + 21 * ns.length
  | [], w, h => by simp [wordsOf]
  | n :: ns, w, h => by
    have h1 := words_len ns (w ++ (⟨#[32]⟩ ++ itoaB n)) (fun m hm => h m (List.mem_cons_of_mem _ hm))
    have h2 := itoa_len n (h n (List.mem_cons_self ..))
    have e : wordsOf w (n :: ns) = wordsOf (w ++ (⟨#[32]⟩ ++ itoaB n)) ns := rfl
    rw [e]
    simp only [size_append, List.length_cons] at h1 ⊢
    have : (ByteArray.mk #[32]).size = 1 := rfl
    omega
theorem line_len (w : ByteArray) (ns : List Int) (h : ∀ n ∈ ns, Rng n) : (lineOf w ns).size ≤ w.size + 21 * ns.length + 1 := by
  have := words_len ns w h
  unfold lineOf
  rw [size_append]
  have e : (ByteArray.mk #[10]).size = 1 := rfl
  omega
theorem itoa_flag (b : Bool) : (itoaB (flagOf b)).size = 1 := by cases b <;> decide +kernel
theorem type_len (t : S54) (h : goodT t) : (typeLine t).size ≤ 40 + t.f1.length * 21 := by
  obtain ⟨h0, h1⟩ := h
  have e : wordsOf typeWord ([t.f0, flagOf t.f2] ++ t.f1) = wordsOf (typeWord ++ (⟨#[32]⟩ ++ itoaB t.f0) ++ (⟨#[32]⟩ ++ itoaB (flagOf t.f2))) t.f1 := rfl
  have h2 := words_len t.f1 (typeWord ++ (⟨#[32]⟩ ++ itoaB t.f0) ++ (⟨#[32]⟩ ++ itoaB (flagOf t.f2))) h1
  have h3 := itoa_len _ h0
  have h4 := itoa_flag t.f2
  unfold typeLine lineOf
  rw [e, size_append]
  have e1 : (ByteArray.mk #[10]).size = 1 := rfl
  have e2 : (ByteArray.mk #[32]).size = 1 := rfl
  have e3 : typeWord.size = 4 := rfl
  simp only [size_append] at h2
  omega
theorem prog_len (p : S57) (h : Rng p.f0 ∧ Rng p.f1 ∧ Rng p.f2) : (progLine p).size ≤ 100 := by
  have := line_len progWord [p.f0, p.f1, p.f2, flagOf p.f3] (by
    intro n hn
    simp only [List.mem_cons, List.not_mem_nil, or_false] at hn
    rcases hn with rfl | rfl | rfl | rfl
    · exact h.1
    · exact h.2.1
    · exact h.2.2
    · exact flag_rng _)
  have e3 : progWord.size = 4 := rfl
  simp only [List.length_cons, List.length_nil] at this
  unfold progLine
  omega
theorem names_len : ∀ k : Fin 28, (nameAt k.val).size ≤ 16 := by decide +kernel
theorem name_len (k : Nat) : (nameAt k).size ≤ 16 := by
  by_cases h : k < 28
  · exact names_len ⟨k, h⟩
  · have e : nameAt k = ⟨#[]⟩ := by
      unfold nameAt
      rw [List.getD_eq_getElem?_getD, List.getElem?_eq_none (show rowsS.length ≤ k by rw [show rowsS.length = 28 from rfl]; omega)]
      rfl
    rw [e]
    decide
theorem nums_len (k : Nat) (a b : Int) : (numsOf k a b).length ≤ 2 := by
  unfold numsOf
  split <;> split <;> simp
theorem nums_mem {k : Nat} {a b n : Int} (h : n ∈ numsOf k a b) : n = a ∨ n = b := by
  unfold numsOf at h
  split at h <;> split at h <;> simp at h <;> omega
def rngI (i : S28) : Prop := Rng i.f1 ∧ Rng i.f2 ∧ ∀ n ∈ i.f3, Rng n
def rngP (p : S57) : Prop := Rng p.f0 ∧ Rng p.f1 ∧ Rng p.f2 ∧ ∀ i ∈ p.f4, rngI i
theorem ins_len (x : S28) (h : rngI x) : (insLine x.f0 x.f1 x.f2 x.f3).size ≤ 60 + x.f3.length * 21 := by
  have := line_len (nameAt x.f0.toNat) (numsOf x.f0.toNat x.f1 x.f2 ++ x.f3) (by
    intro n hn
    rcases List.mem_append.mp hn with hn | hn
    · rcases nums_mem hn with rfl | rfl
      · exact h.1
      · exact h.2.1
    · exact h.2.2 n hn)
  have h1 := name_len x.f0.toNat
  have h2 := nums_len x.f0.toNat x.f1 x.f2
  rw [List.length_append] at this
  unfold insLine
  omega
theorem types_len : ∀ (l : List S54) (acc : ByteArray), (∀ t ∈ l, goodT t) → (typesText acc l).size ≤ acc.size + tsz l
  | [], acc, h => by simp [typesText, tsz]
  | t :: l, acc, h => by
    have h1 := types_len l (acc ++ typeLine t) (fun x hx => h x (List.mem_cons_of_mem _ hx))
    have h2 := type_len t (h t (List.mem_cons_self ..))
    have e : typesText acc (t :: l) = typesText (acc ++ typeLine t) l := rfl
    rw [e]
    rw [size_append] at h1
    unfold tsz
    omega
theorem code_len : ∀ (l : List S28) (acc : ByteArray), (∀ i ∈ l, rngI i) → (codeText acc l).size ≤ acc.size + isz l
  | [], acc, h => by simp [codeText, isz]
  | x :: l, acc, h => by
    have h1 := code_len l (acc ++ insLine x.f0 x.f1 x.f2 x.f3) (fun i hi => h i (List.mem_cons_of_mem _ hi))
    have h2 := ins_len x (h x (List.mem_cons_self ..))
    have e : codeText acc (x :: l) = codeText (acc ++ insLine x.f0 x.f1 x.f2 x.f3) l := rfl
    rw [e]
    rw [size_append] at h1
    unfold isz
    omega
theorem progs_len : ∀ (l : List S57) (acc : ByteArray), (∀ p ∈ l, rngP p) → (progsText acc l).size ≤ acc.size + psz l
  | [], acc, h => by simp [progsText, psz]
  | p :: l, acc, h => by
    have hp := h p (List.mem_cons_self ..)
    have h1 := progs_len l (progText acc p) (fun x hx => h x (List.mem_cons_of_mem _ hx))
    have h2 := prog_len p ⟨hp.1, hp.2.1, hp.2.2.1⟩
    have h3 := code_len p.f4 (acc ++ progLine p) hp.2.2.2
    have e : progsText acc (p :: l) = progsText (progText acc p) l := rfl
    rw [e]
    rw [size_append] at h3
    unfold progText at h1
    unfold psz
    unfold progText
    omega
theorem full_len (ps : List S57) (ts : List S54) (hp : ∀ p ∈ ps, rngP p) (ht : ∀ t ∈ ts, goodT t) : (fullText ps ts).size ≤ tsz ts + psz ps := by
  have h1 := types_len ts ⟨#[]⟩ ht
  have h2 := progs_len ps (typesText ⟨#[]⟩ ts) hp
  have e : (ByteArray.mk #[]).size = 0 := rfl
  unfold fullText
  omega
theorem good_rng {p : S57} (h : goodP p) : rngP p := ⟨h.1, h.2.1, h.2.2.1, fun i hi => (h.2.2.2 i hi).2⟩
theorem isz_len : ∀ (l : List S28), l.length ≤ isz l ∧ ∀ x ∈ l, x.f3.length ≤ isz l
  | [] => ⟨by simp, by simp⟩
  | x :: l => by
    obtain ⟨h1, h2⟩ := isz_len l
    unfold isz
    refine ⟨by simp only [List.length_cons]; omega, ?_⟩
    intro y hy
    rcases List.mem_cons.mp hy with rfl | hy
    · omega
    · have := h2 y hy
      omega
theorem psz_len : ∀ (l : List S57), l.length ≤ psz l ∧ ∀ p ∈ l, p.f4.length ≤ psz l ∧ ∀ x ∈ p.f4, x.f3.length ≤ psz l
  | [] => ⟨by simp, by simp⟩
  | p :: l => by
    obtain ⟨h1, h2⟩ := psz_len l
    obtain ⟨k1, k2⟩ := isz_len p.f4
    unfold psz
    refine ⟨by simp only [List.length_cons]; omega, ?_⟩
    intro y hy
    rcases List.mem_cons.mp hy with rfl | hy
    · refine ⟨by omega, fun x hx => ?_⟩
      have := k2 x hx
      omega
    · obtain ⟨a, b⟩ := h2 y hy
      refine ⟨by omega, fun x hx => ?_⟩
      have := b x hx
      omega
theorem tsz_len : ∀ (l : List S54), l.length ≤ tsz l ∧ ∀ t ∈ l, t.f1.length ≤ tsz l
  | [] => ⟨by simp, by simp⟩
  | t :: l => by
    obtain ⟨h1, h2⟩ := tsz_len l
    unfold tsz
    refine ⟨by simp only [List.length_cons]; omega, ?_⟩
    intro y hy
    rcases List.mem_cons.mp hy with rfl | hy
    · omega
    · have := h2 y hy
      omega
end Go.Proofs.YtfkfgjmhcfagkaaDoor.Given
end
section
namespace Go.Proofs.YtfkfgjmhcfagkaaDoor.Given
open Go.RowKit Go.Proofs.YtfkfgjmhcfagkaaDoorW.PrintWords Go.Proofs.YtfkfgjmhcfagkaaDoorW.PrintLast Go.Proofs.YtfkfgjmhcfagkaaDoorW.PrintMore Go.Proofs.YtfkfgjmhcfagkaaDoor.Print
set_option linter.unusedVariables false
set_option linter.unusedSimpArgs false
theorem words_ge : ∀ (ns : List Int) (w : ByteArray), ns.length ≤ (wordsOf w ns).size
  | [], w => by simp
  | n :: ns, w => by
    have e : wordsOf w (n :: ns) = wordsOf (w ++ (⟨#[32]⟩ ++ itoaB n)) ns := rfl
    have h1 := words_ge ns (w ++ (⟨#[32]⟩ ++ itoaB n))
    have h3 : ∀ (l : List Int) (x : ByteArray), x.size + l.length ≤ (wordsOf x l).size := by
      intro l
      induction l with
      | nil => intro x; simp [wordsOf]
      | cons m l ih =>
        intro x
        have e : wordsOf x (m :: l) = wordsOf (x ++ (⟨#[32]⟩ ++ itoaB m)) l := rfl
        have := ih (x ++ (⟨#[32]⟩ ++ itoaB m))
        rw [e]
        simp only [size_append, List.length_cons] at this ⊢
        have e2 : (ByteArray.mk #[32]).size = 1 := rfl
        omega
    have h4 := h3 ns (w ++ (⟨#[32]⟩ ++ itoaB n))
    rw [e]
    simp only [size_append, List.length_cons] at h4 ⊢
    have e2 : (ByteArray.mk #[32]).size = 1 := rfl
    omega
theorem list_size (b : ByteArray) : b.data.toList.length = b.size := Array.length_toList
theorem flat_ge {α : Type} (f : α → List UInt8) : ∀ (l : List α) (x : α), x ∈ l → (f x).length ≤ (l.flatMap f).length
  | a :: l, x, h => by
    rw [List.flatMap_cons, List.length_append]
    rcases List.mem_cons.mp h with rfl | h
    · omega
    · have := flat_ge f l x h
      omega
theorem txt_types (ps : List S57) (ts : List S54) (t : S54) (h : t ∈ ts) : t.f1.length ≤ (txt ps ts).length := by
  have h1 := flat_ge tL ts t h
  have h2 := words_ge ([t.f0, flagOf t.f2] ++ t.f1) typeWord
  unfold txt
  unfold tL typeW at h1
  rw [List.length_append, list_size] at h1
  rw [List.length_append] at h2 ⊢
  unfold tL typeW
  omega
theorem txt_lists (ps : List S57) (ts : List S54) (p : S57) (h : p ∈ ps) (i : S28) (hi : i ∈ p.f4) : i.f3.length ≤ (txt ps ts).length := by
  have h1 := flat_ge pL ps p h
  have h2 := flat_ge iL p.f4 i hi
  have h3 := words_ge (numsOf i.f0.toNat i.f1 i.f2 ++ i.f3) (nameAt i.f0.toNat)
  have h4 : (iL i).length = (insW i).size + 1 := by simp [iL]
  have h5 : (pL p).length = (hL0 p).length + (p.f4.flatMap iL).length := by rw [pL, List.length_append]
  unfold insW at h4
  rw [List.length_append] at h3
  unfold txt
  rw [List.length_append]
  omega
theorem wf_of_good {ps : List S57} {ts : List S54} {M : Nat} (hM : M ≤ 100000000000) (hp : ∀ p ∈ ps, rngP p) (ht : ∀ t ∈ ts, goodT t) (h1 : ∀ t ∈ ts, t.f1.length ≤ M) (h2 : ∀ p ∈ ps, ∀ i ∈ p.f4, i.f3.length ≤ M) : (∀ t ∈ ts, wfT t) ∧ ∀ p ∈ ps, wfP p :=
  ⟨fun t h => ⟨fun n hn => rng_wf.mpr ((ht t h).2 n hn), rng_wf.mpr (ht t h).1, Nat.le_trans (h1 t h) hM⟩,
   fun p h => ⟨rng_wf.mpr (hp p h).1, rng_wf.mpr (hp p h).2.1, rng_wf.mpr (hp p h).2.2.1, fun i hi => ⟨fun n hn => rng_wf.mpr (((hp p h).2.2.2 i hi).2.2 n hn), rng_wf.mpr ((hp p h).2.2.2 i hi).1, rng_wf.mpr ((hp p h).2.2.2 i hi).2.1, Nat.le_trans (h2 p h i hi) hM⟩⟩⟩
theorem good_clean {ps : List S57} (h : ∀ p ∈ ps, goodP p) : cleanProgs ps = true := by
  unfold cleanProgs cleanCode
  rw [List.all_eq_true]
  intro p hp
  rw [List.all_eq_true]
  intro i hi
  exact ((h p hp).2.2.2 i hi).1
theorem clean_good {ps : List S57} (h : ∀ p ∈ ps, rngP p) (hc : cleanProgs ps = true) : ∀ p ∈ ps, goodP p := by
  unfold cleanProgs cleanCode at hc
  intro p hp
  refine ⟨(h p hp).1, (h p hp).2.1, (h p hp).2.2.1, fun i hi => ⟨?_, (h p hp).2.2.2 i hi⟩⟩
  exact List.all_eq_true.mp (List.all_eq_true.mp hc p hp) i hi
theorem read_gives (text : ByteArray) (hs : text.size < 4294967281) :
    ((parseOf text).2.2.2 = 0 ∧ (parseOf text).2.2.1 = 0 ∧ printOf (parseOf text).1 (parseOf text).2.1 = (text, 0) ∧ (∀ t ∈ (parseOf text).2.1, wfT t) ∧ (∀ p ∈ (parseOf text).1, wfP p) ∧ (fullText (parseOf text).1 (parseOf text).2.1).size + 1 ≤ 140737488355328) ∨
    ((parseOf text).2.2.2 = 80 ∧ 1 ≤ (parseOf text).2.2.1 ∧ (parseOf text).1 = [] ∧ (parseOf text).2.1 = []) := by
  have h := parse_out (text.size + 1) 1 [] [] text.data.toList (Nat.le_refl _) ⟨by simp, by simp⟩ (by rw [list_size]; omega)
  unfold parseOf
  rcases h with ⟨h1, h2, h3, h4⟩ | h
  · refine Or.inl ?_
    generalize parseRun (text.size + 1) 1 [] [] text.data.toList = r at h1 h2 h3 h4
    have e0 : txt ([] : List S57) ([] : List S54) = [] := rfl
    rw [e0, List.nil_append] at h4
    have hf : fullText r.1 r.2.1 = text := by
      have e := full_list r.1 r.2.1
      rw [h4] at e
      exact ByteArray.ext (Array.ext' e)
    have hw := wf_of_good (M := text.size) (by omega) (fun p hp => good_rng (h3.2 p hp)) h3.1 (fun t ht => by have := txt_types r.1 r.2.1 t ht; rw [h4, list_size] at this; exact this) (fun p hp i hi => by have := txt_lists r.1 r.2.1 p hp i hi; rw [h4, list_size] at this; exact this)
    refine ⟨h1, h2, ?_, hw.1, hw.2, by rw [hf]; omega⟩
    unfold printOf
    rw [if_pos (good_clean h3.2), hf]
  · exact Or.inr h
theorem small_gives (ps : List S57) (ts : List S54) (hp : ∀ p ∈ ps, rngP p) (ht : ∀ t ∈ ts, goodT t) (hb : tsz ts + psz ps ≤ 2147483647) :
    (∀ t ∈ ts, wfT t) ∧ (∀ p ∈ ps, wfP p) ∧ (fullText ps ts).size ≤ 2147483647 ∧ (∀ p ∈ ps, p.f4.length ≤ 4611686018427387904 ∧ ∀ x ∈ p.f4, x.f3.length ≤ 4611686018427387904) ∧ (∀ p ∈ ts, p.f1.length ≤ 4611686018427387904) := by
  have h1 := psz_len ps
  have h2 := tsz_len ts
  have hw := wf_of_good (M := 2147483647) (by omega) hp ht (fun t h => by have := h2.2 t h; omega) (fun p h i hi => by have := (h1.2 p h).2 i hi; omega)
  refine ⟨hw.1, hw.2, by have := full_len ps ts hp ht; omega, fun p h => ⟨by have := (h1.2 p h).1; omega, fun x hx => by have := (h1.2 p h).2 x hx; omega⟩, fun t h => by have := h2.2 t h; omega⟩
end Go.Proofs.YtfkfgjmhcfagkaaDoor.Given
end
section
namespace Go.Proofs.YtfkfgjmhcfagkaaDoor.Print
open Go.RowKit
open Go.RowKit Go.Proofs.YtfkfgjmhcfagkaaDoorW.PrintWords Go.Proofs.YtfkfgjmhcfagkaaDoorW.PrintLast Go.Proofs.YtfkfgjmhcfagkaaDoorW.PrintMore
attribute [local go_sem] max2_int min2_int max_two min_two max_three min_three max_four min_four
set_option linter.unusedVariables false
set_option linter.unusedSimpArgs false
def squintlaw08_sameIns.f (k : Nat) (a0_0 : Int) (a0_1 : Int) (a0_2 : Int) (l0_3 : List Int) (a1_0 : Int) (a1_1 : Int) (a1_2 : Int) (l1_3 : List Int) : Option (Bool) := if a0_0 = a1_0 then (if a0_1 = a1_1 then (if a0_2 = a1_2 then ((squintlaw08_sameInts.f k l0_3 l1_3).bind fun t384 => (some t384)) else (some false)) else (some false)) else (some false)
set_option maxHeartbeats 8000000 in
set_option maxRecDepth 100000 in
theorem squintlaw08_sameIns.calls (k : Nat) (a0_0 : Int) (a0_1 : Int) (a0_2 : Int) (A0_3 : Option Addr) (c0_3 : Nat) (l0_3 : List Int) (a1_0 : Int) (a1_1 : Int) (a1_2 : Int) (A1_3 : Option Addr) (c1_3 : Nat) (l1_3 : List Int) (r : Bool) (w : World) (hr0_3 : Kd.C (Kd.int .i64) w A0_3 l0_3.length l0_3) (hc0_3 : l0_3.length ≤ c0_3) (hr1_3 : Kd.C (Kd.int .i64) w A1_3 l1_3.length l1_3) (hc1_3 : l1_3.length ≤ c1_3) (h : squintlaw08_sameIns.f k a0_0 a0_1 a0_2 l0_3 a1_0 a1_1 a1_2 l1_3 = some r) :
    Calls Tryd.prog 59 #[.agg #[.int .i64 a0_0, .int .i64 a0_1, .int .i64 a0_2, .slice A0_3 l0_3.length c0_3], .agg #[.int .i64 a1_0, .int .i64 a1_1, .int .i64 a1_2, .slice A1_3 l1_3.length c1_3]] w fun e w' => e = .returned (.bool r) ∧ Below w.heap.size w w' := by
  have hu28 := Tryd.underlying28
  have HR0_3 := Aside0.mk hr0_3
  have HC0_3 := Aside0.mk hc0_3
  clear hr0_3 hc0_3
  have HR1_3 := Aside0.mk hr1_3
  have HC1_3 := Aside0.mk hc1_3
  clear hr1_3 hc1_3
  have HB := Aside0.mk (Below.refl w.heap.size w)
  have H : (if a0_0 = a1_0 then (if a0_1 = a1_1 then (if a0_2 = a1_2 then ((squintlaw08_sameInts.f k l0_3 l1_3).bind fun t384 => (some t384)) else (some false)) else (some false)) else (some false)) = some r := h
  clear h
  by_cases c3 : a0_0 = a1_0
  · rw [if_pos c3] at H
    have c3b0 : (a0_0 == a1_0) = true := beq_iff_eq.mpr c3
    have c3b1 : (a0_0 != a1_0) = false := bne_eq_false_iff_eq.mpr c3
    clear c3
    by_cases c4 : a0_1 = a1_1
    · rw [if_pos c4] at H
      have c4b0 : (a0_1 == a1_1) = true := beq_iff_eq.mpr c4
      have c4b1 : (a0_1 != a1_1) = false := bne_eq_false_iff_eq.mpr c4
      clear c4
      by_cases c5 : a0_2 = a1_2
      · rw [if_pos c5] at H
        have c5b0 : (a0_2 == a1_2) = true := beq_iff_eq.mpr c5
        have c5b1 : (a0_2 != a1_2) = false := bne_eq_false_iff_eq.mpr c5
        clear c5
        replace H := Option.bind_eq_some_iff.mp H
        obtain ⟨t384, A60, H⟩ := H
        replace H : (some t384) = some r := H
        have A6 := Aside0.mk A60
        clear A60
        obtain rfl := Option.some.inj H
        go_enter Tryd.func59, Tryd.ntmps59
        go_wp2_with (first | ((with_reducible refine gate_dst (N := 2) rfl ?_); refine box_event ?hg (N := 2) ?hd (cs := #[.int .i64 a0_0, .int .i64 a0_1, .int .i64 a0_2, .slice A0_3 l0_3.length c0_3]) (t := 28) ?hr ?_; (case hd => rfl); (case hg => rfl); (case hr => first | (go_simp; done) | (go_simp; rfl)); intro gb382 hg w7 hbox hb; have n0_ := Aside0.mk (below_step (by repeat (first | (with_reducible first | exact HB.out | apply below_alloc | apply pw_below_drewN | apply below_drew1) | exact HB.out)) hb); have n1_ := Aside0.mk (hbox); have n2_ := Aside0.mk ((by rw [hg]; exact (below_size (by repeat (first | (with_reducible first | exact HB.out | apply below_alloc | apply pw_below_drewN | apply below_drew1) | exact HB.out))) : w.heap.size ≤ gb382)); have n3_ := Aside0.mk ((by rw [hg]; exact (below_size (by repeat (first | (with_reducible first | exact HB.out | apply below_alloc | apply pw_below_drewN | apply below_drew1) | exact HB.out))) : w.heap.size ≤ gb382)); clear HB; have HB := n0_; have BK382 := n1_; have GW382 := n2_; have GE382 := n3_; clear n0_ n1_ n2_ n3_; clear hb hbox hg) | ((with_reducible refine gate_dst (N := 3) rfl ?_); refine box_event ?hg (N := 3) ?hd (cs := #[.int .i64 a1_0, .int .i64 a1_1, .int .i64 a1_2, .slice A1_3 l1_3.length c1_3]) (t := 28) ?hr ?_; (case hd => rfl); (case hg => rfl); (case hr => first | (go_simp; done) | (go_simp; rfl)); intro gb383 hg w8 hbox hb; have n0_ := Aside0.mk (blk_below (g := gb382) (o := .cells #[.int .i64 a0_0, .int .i64 a0_1, .int .i64 a0_2, .slice A0_3 l0_3.length c0_3] 28 (0, 0)) (by (with_reducible repeat (first | refine blk_drewN ?_ _ | refine blk_drew ?_ | refine blk_alloc ?_ _)); exact BK382.out) hb); have n1_ := Aside0.mk (below_step (by repeat (first | (with_reducible first | exact HB.out | apply below_alloc | apply pw_below_drewN | apply below_drew1 | refine below_set ?_ GE382.out) | exact HB.out)) hb); have n2_ := Aside0.mk (hbox); have n3_ := Aside0.mk ((by rw [hg]; exact (below_size (by repeat (first | (with_reducible first | exact HB.out | apply below_alloc | apply pw_below_drewN | apply below_drew1 | refine below_set ?_ GE382.out) | exact HB.out))) : w.heap.size ≤ gb383)); have n4_ := Aside0.mk ((by rw [hg]; exact (below_size (by repeat (first | (with_reducible first | exact HB.out | apply below_alloc | apply pw_below_drewN | apply below_drew1 | refine below_set ?_ GE382.out) | exact HB.out))) : w.heap.size ≤ gb383)); have n5_ := Aside0.mk ((by rw [hg]; exact Nat.ne_of_lt (blk_lt (g := gb382) (o := .cells #[.int .i64 a0_0, .int .i64 a0_1, .int .i64 a0_2, .slice A0_3 l0_3.length c0_3] 28 (0, 0)) (by (with_reducible repeat (first | refine blk_drewN ?_ _ | refine blk_drew ?_ | refine blk_alloc ?_ _)); exact BK382.out)) : gb382 ≠ gb383)); have n6_ := Aside0.mk ((by rw [hg]; exact Nat.ne_of_gt (blk_lt (g := gb382) (o := .cells #[.int .i64 a0_0, .int .i64 a0_1, .int .i64 a0_2, .slice A0_3 l0_3.length c0_3] 28 (0, 0)) (by (with_reducible repeat (first | refine blk_drewN ?_ _ | refine blk_drew ?_ | refine blk_alloc ?_ _)); exact BK382.out)) : gb383 ≠ gb382)); clear BK382; clear HB; have BK382 := n0_; have HB := n1_; have BK383 := n2_; have GW383 := n3_; have GE383 := n4_; have NB382_383 := n5_; have NB383_382 := n6_; clear n0_ n1_ n2_ n3_ n4_ n5_ n6_; clear hb hbox hg; have hnb9 := NB382_383.out; have hnc9 := NB383_382.out; have hcz10_0 : w8.cell? ⟨gb382, 0, none⟩ = some (.int .i64 a0_0) := (blk_cell BK382.out 0).trans rfl; have hcz10_1 : w8.cell? ⟨gb382, 1, none⟩ = some (.int .i64 a0_1) := (blk_cell BK382.out 1).trans rfl; have hcz10_2 : w8.cell? ⟨gb382, 2, none⟩ = some (.int .i64 a0_2) := (blk_cell BK382.out 2).trans rfl; have hcz10_3 : w8.cell? ⟨gb382, 3, none⟩ = some (.slice A0_3 l0_3.length c0_3) := (blk_cell BK382.out 3).trans rfl; have hfz10_0 := blk_frozen BK382.out 0; have hfz10_1 := blk_frozen BK382.out 1; have hfz10_2 := blk_frozen BK382.out 2; have hfz10_3 := blk_frozen BK382.out 3; have hcz11_0 : w8.cell? ⟨gb383, 0, none⟩ = some (.int .i64 a1_0) := (blk_cell BK383.out 0).trans rfl; have hcz11_1 : w8.cell? ⟨gb383, 1, none⟩ = some (.int .i64 a1_1) := (blk_cell BK383.out 1).trans rfl; have hcz11_2 : w8.cell? ⟨gb383, 2, none⟩ = some (.int .i64 a1_2) := (blk_cell BK383.out 2).trans rfl; have hcz11_3 : w8.cell? ⟨gb383, 3, none⟩ = some (.slice A1_3 l1_3.length c1_3) := (blk_cell BK383.out 3).trans rfl; have hfz11_0 := blk_frozen BK383.out 0; have hfz11_1 := blk_frozen BK383.out 1; have hfz11_2 := blk_frozen BK383.out 2; have hfz11_3 := blk_frozen BK383.out 3) | (go_at_call 19; (with_reducible refine (squintlaw08_sameInts.calls k _ _ l0_3 _ _ l1_3 t384 _ ?side1 ?side2 ?side3 ?side4 A6.out).mono ?_); (case side1 => repeat (first | exact (Kd.C_below HR0_3.out HB.out) | (with_reducible refine Kd.C_alloc ?_ _) | (with_reducible refine Kd.C_drewN ?_ _) | (with_reducible refine Kd.C_drew ?_))); (case side2 => exact HC0_3.out); (case side3 => repeat (first | exact (Kd.C_below HR1_3.out HB.out) | (with_reducible refine Kd.C_alloc ?_ _) | (with_reducible refine Kd.C_drewN ?_ _) | (with_reducible refine Kd.C_drew ?_))); (case side4 => exact HC1_3.out); rintro e w' ⟨rfl, ⟨nd, rfl⟩⟩))
        go_ret
        exact ⟨by first | rfl | (simp [errW_none, errW_some] <;> rfl) | (simp [*, errW_none, errW_some] <;> rfl), by repeat (first | (with_reducible first | exact HB.out | apply below_alloc | apply pw_below_drewN | apply below_drew1 | refine below_set ?_ GE382.out | refine below_set ?_ GE383.out) | exact HB.out)⟩
      · rw [if_neg c5] at H
        have c5b0 : (a0_2 == a1_2) = false := beq_eq_false_iff_ne.mpr c5
        have c5b1 : (a0_2 != a1_2) = true := bne_iff_ne.mpr c5
        obtain rfl := Option.some.inj H
        go_enter Tryd.func59, Tryd.ntmps59
        go_wp2_with (first | ((with_reducible refine gate_dst (N := 2) rfl ?_); refine box_event ?hg (N := 2) ?hd (cs := #[.int .i64 a0_0, .int .i64 a0_1, .int .i64 a0_2, .slice A0_3 l0_3.length c0_3]) (t := 28) ?hr ?_; (case hd => rfl); (case hg => rfl); (case hr => first | (go_simp; done) | (go_simp; rfl)); intro gb382 hg w12 hbox hb; have n0_ := Aside0.mk (below_step (by repeat (first | (with_reducible first | exact HB.out | apply below_alloc | apply pw_below_drewN | apply below_drew1) | exact HB.out)) hb); have n1_ := Aside0.mk (hbox); have n2_ := Aside0.mk ((by rw [hg]; exact (below_size (by repeat (first | (with_reducible first | exact HB.out | apply below_alloc | apply pw_below_drewN | apply below_drew1) | exact HB.out))) : w.heap.size ≤ gb382)); have n3_ := Aside0.mk ((by rw [hg]; exact (below_size (by repeat (first | (with_reducible first | exact HB.out | apply below_alloc | apply pw_below_drewN | apply below_drew1) | exact HB.out))) : w.heap.size ≤ gb382)); clear HB; have HB := n0_; have BK382 := n1_; have GW382 := n2_; have GE382 := n3_; clear n0_ n1_ n2_ n3_; clear hb hbox hg) | ((with_reducible refine gate_dst (N := 3) rfl ?_); refine box_event ?hg (N := 3) ?hd (cs := #[.int .i64 a1_0, .int .i64 a1_1, .int .i64 a1_2, .slice A1_3 l1_3.length c1_3]) (t := 28) ?hr ?_; (case hd => rfl); (case hg => rfl); (case hr => first | (go_simp; done) | (go_simp; rfl)); intro gb383 hg w13 hbox hb; have n0_ := Aside0.mk (blk_below (g := gb382) (o := .cells #[.int .i64 a0_0, .int .i64 a0_1, .int .i64 a0_2, .slice A0_3 l0_3.length c0_3] 28 (0, 0)) (by (with_reducible repeat (first | refine blk_drewN ?_ _ | refine blk_drew ?_ | refine blk_alloc ?_ _)); exact BK382.out) hb); have n1_ := Aside0.mk (below_step (by repeat (first | (with_reducible first | exact HB.out | apply below_alloc | apply pw_below_drewN | apply below_drew1 | refine below_set ?_ GE382.out) | exact HB.out)) hb); have n2_ := Aside0.mk (hbox); have n3_ := Aside0.mk ((by rw [hg]; exact (below_size (by repeat (first | (with_reducible first | exact HB.out | apply below_alloc | apply pw_below_drewN | apply below_drew1 | refine below_set ?_ GE382.out) | exact HB.out))) : w.heap.size ≤ gb383)); have n4_ := Aside0.mk ((by rw [hg]; exact (below_size (by repeat (first | (with_reducible first | exact HB.out | apply below_alloc | apply pw_below_drewN | apply below_drew1 | refine below_set ?_ GE382.out) | exact HB.out))) : w.heap.size ≤ gb383)); have n5_ := Aside0.mk ((by rw [hg]; exact Nat.ne_of_lt (blk_lt (g := gb382) (o := .cells #[.int .i64 a0_0, .int .i64 a0_1, .int .i64 a0_2, .slice A0_3 l0_3.length c0_3] 28 (0, 0)) (by (with_reducible repeat (first | refine blk_drewN ?_ _ | refine blk_drew ?_ | refine blk_alloc ?_ _)); exact BK382.out)) : gb382 ≠ gb383)); have n6_ := Aside0.mk ((by rw [hg]; exact Nat.ne_of_gt (blk_lt (g := gb382) (o := .cells #[.int .i64 a0_0, .int .i64 a0_1, .int .i64 a0_2, .slice A0_3 l0_3.length c0_3] 28 (0, 0)) (by (with_reducible repeat (first | refine blk_drewN ?_ _ | refine blk_drew ?_ | refine blk_alloc ?_ _)); exact BK382.out)) : gb383 ≠ gb382)); clear BK382; clear HB; have BK382 := n0_; have HB := n1_; have BK383 := n2_; have GW383 := n3_; have GE383 := n4_; have NB382_383 := n5_; have NB383_382 := n6_; clear n0_ n1_ n2_ n3_ n4_ n5_ n6_; clear hb hbox hg; have hnb14 := NB382_383.out; have hnc14 := NB383_382.out; have hcz15_0 : w13.cell? ⟨gb382, 0, none⟩ = some (.int .i64 a0_0) := (blk_cell BK382.out 0).trans rfl; have hcz15_1 : w13.cell? ⟨gb382, 1, none⟩ = some (.int .i64 a0_1) := (blk_cell BK382.out 1).trans rfl; have hcz15_2 : w13.cell? ⟨gb382, 2, none⟩ = some (.int .i64 a0_2) := (blk_cell BK382.out 2).trans rfl; have hcz15_3 : w13.cell? ⟨gb382, 3, none⟩ = some (.slice A0_3 l0_3.length c0_3) := (blk_cell BK382.out 3).trans rfl; have hfz15_0 := blk_frozen BK382.out 0; have hfz15_1 := blk_frozen BK382.out 1; have hfz15_2 := blk_frozen BK382.out 2; have hfz15_3 := blk_frozen BK382.out 3; have hcz16_0 : w13.cell? ⟨gb383, 0, none⟩ = some (.int .i64 a1_0) := (blk_cell BK383.out 0).trans rfl; have hcz16_1 : w13.cell? ⟨gb383, 1, none⟩ = some (.int .i64 a1_1) := (blk_cell BK383.out 1).trans rfl; have hcz16_2 : w13.cell? ⟨gb383, 2, none⟩ = some (.int .i64 a1_2) := (blk_cell BK383.out 2).trans rfl; have hcz16_3 : w13.cell? ⟨gb383, 3, none⟩ = some (.slice A1_3 l1_3.length c1_3) := (blk_cell BK383.out 3).trans rfl; have hfz16_0 := blk_frozen BK383.out 0; have hfz16_1 := blk_frozen BK383.out 1; have hfz16_2 := blk_frozen BK383.out 2; have hfz16_3 := blk_frozen BK383.out 3))
        go_ret
        exact ⟨by first | rfl | (simp [errW_none, errW_some] <;> rfl) | (simp [*, errW_none, errW_some] <;> rfl), by repeat (first | (with_reducible first | exact HB.out | apply below_alloc | apply pw_below_drewN | apply below_drew1 | refine below_set ?_ GE382.out | refine below_set ?_ GE383.out) | exact HB.out)⟩
    · rw [if_neg c4] at H
      have c4b0 : (a0_1 == a1_1) = false := beq_eq_false_iff_ne.mpr c4
      have c4b1 : (a0_1 != a1_1) = true := bne_iff_ne.mpr c4
      obtain rfl := Option.some.inj H
      go_enter Tryd.func59, Tryd.ntmps59
      go_wp2_with (first | ((with_reducible refine gate_dst (N := 2) rfl ?_); refine box_event ?hg (N := 2) ?hd (cs := #[.int .i64 a0_0, .int .i64 a0_1, .int .i64 a0_2, .slice A0_3 l0_3.length c0_3]) (t := 28) ?hr ?_; (case hd => rfl); (case hg => rfl); (case hr => first | (go_simp; done) | (go_simp; rfl)); intro gb382 hg w17 hbox hb; have n0_ := Aside0.mk (below_step (by repeat (first | (with_reducible first | exact HB.out | apply below_alloc | apply pw_below_drewN | apply below_drew1) | exact HB.out)) hb); have n1_ := Aside0.mk (hbox); have n2_ := Aside0.mk ((by rw [hg]; exact (below_size (by repeat (first | (with_reducible first | exact HB.out | apply below_alloc | apply pw_below_drewN | apply below_drew1) | exact HB.out))) : w.heap.size ≤ gb382)); have n3_ := Aside0.mk ((by rw [hg]; exact (below_size (by repeat (first | (with_reducible first | exact HB.out | apply below_alloc | apply pw_below_drewN | apply below_drew1) | exact HB.out))) : w.heap.size ≤ gb382)); clear HB; have HB := n0_; have BK382 := n1_; have GW382 := n2_; have GE382 := n3_; clear n0_ n1_ n2_ n3_; clear hb hbox hg) | ((with_reducible refine gate_dst (N := 3) rfl ?_); refine box_event ?hg (N := 3) ?hd (cs := #[.int .i64 a1_0, .int .i64 a1_1, .int .i64 a1_2, .slice A1_3 l1_3.length c1_3]) (t := 28) ?hr ?_; (case hd => rfl); (case hg => rfl); (case hr => first | (go_simp; done) | (go_simp; rfl)); intro gb383 hg w18 hbox hb; have n0_ := Aside0.mk (blk_below (g := gb382) (o := .cells #[.int .i64 a0_0, .int .i64 a0_1, .int .i64 a0_2, .slice A0_3 l0_3.length c0_3] 28 (0, 0)) (by (with_reducible repeat (first | refine blk_drewN ?_ _ | refine blk_drew ?_ | refine blk_alloc ?_ _)); exact BK382.out) hb); have n1_ := Aside0.mk (below_step (by repeat (first | (with_reducible first | exact HB.out | apply below_alloc | apply pw_below_drewN | apply below_drew1 | refine below_set ?_ GE382.out) | exact HB.out)) hb); have n2_ := Aside0.mk (hbox); have n3_ := Aside0.mk ((by rw [hg]; exact (below_size (by repeat (first | (with_reducible first | exact HB.out | apply below_alloc | apply pw_below_drewN | apply below_drew1 | refine below_set ?_ GE382.out) | exact HB.out))) : w.heap.size ≤ gb383)); have n4_ := Aside0.mk ((by rw [hg]; exact (below_size (by repeat (first | (with_reducible first | exact HB.out | apply below_alloc | apply pw_below_drewN | apply below_drew1 | refine below_set ?_ GE382.out) | exact HB.out))) : w.heap.size ≤ gb383)); have n5_ := Aside0.mk ((by rw [hg]; exact Nat.ne_of_lt (blk_lt (g := gb382) (o := .cells #[.int .i64 a0_0, .int .i64 a0_1, .int .i64 a0_2, .slice A0_3 l0_3.length c0_3] 28 (0, 0)) (by (with_reducible repeat (first | refine blk_drewN ?_ _ | refine blk_drew ?_ | refine blk_alloc ?_ _)); exact BK382.out)) : gb382 ≠ gb383)); have n6_ := Aside0.mk ((by rw [hg]; exact Nat.ne_of_gt (blk_lt (g := gb382) (o := .cells #[.int .i64 a0_0, .int .i64 a0_1, .int .i64 a0_2, .slice A0_3 l0_3.length c0_3] 28 (0, 0)) (by (with_reducible repeat (first | refine blk_drewN ?_ _ | refine blk_drew ?_ | refine blk_alloc ?_ _)); exact BK382.out)) : gb383 ≠ gb382)); clear BK382; clear HB; have BK382 := n0_; have HB := n1_; have BK383 := n2_; have GW383 := n3_; have GE383 := n4_; have NB382_383 := n5_; have NB383_382 := n6_; clear n0_ n1_ n2_ n3_ n4_ n5_ n6_; clear hb hbox hg; have hnb19 := NB382_383.out; have hnc19 := NB383_382.out; have hcz20_0 : w18.cell? ⟨gb382, 0, none⟩ = some (.int .i64 a0_0) := (blk_cell BK382.out 0).trans rfl; have hcz20_1 : w18.cell? ⟨gb382, 1, none⟩ = some (.int .i64 a0_1) := (blk_cell BK382.out 1).trans rfl; have hcz20_2 : w18.cell? ⟨gb382, 2, none⟩ = some (.int .i64 a0_2) := (blk_cell BK382.out 2).trans rfl; have hcz20_3 : w18.cell? ⟨gb382, 3, none⟩ = some (.slice A0_3 l0_3.length c0_3) := (blk_cell BK382.out 3).trans rfl; have hfz20_0 := blk_frozen BK382.out 0; have hfz20_1 := blk_frozen BK382.out 1; have hfz20_2 := blk_frozen BK382.out 2; have hfz20_3 := blk_frozen BK382.out 3; have hcz21_0 : w18.cell? ⟨gb383, 0, none⟩ = some (.int .i64 a1_0) := (blk_cell BK383.out 0).trans rfl; have hcz21_1 : w18.cell? ⟨gb383, 1, none⟩ = some (.int .i64 a1_1) := (blk_cell BK383.out 1).trans rfl; have hcz21_2 : w18.cell? ⟨gb383, 2, none⟩ = some (.int .i64 a1_2) := (blk_cell BK383.out 2).trans rfl; have hcz21_3 : w18.cell? ⟨gb383, 3, none⟩ = some (.slice A1_3 l1_3.length c1_3) := (blk_cell BK383.out 3).trans rfl; have hfz21_0 := blk_frozen BK383.out 0; have hfz21_1 := blk_frozen BK383.out 1; have hfz21_2 := blk_frozen BK383.out 2; have hfz21_3 := blk_frozen BK383.out 3))
      go_ret
      exact ⟨by first | rfl | (simp [errW_none, errW_some] <;> rfl) | (simp [*, errW_none, errW_some] <;> rfl), by repeat (first | (with_reducible first | exact HB.out | apply below_alloc | apply pw_below_drewN | apply below_drew1 | refine below_set ?_ GE382.out | refine below_set ?_ GE383.out) | exact HB.out)⟩
  · rw [if_neg c3] at H
    have c3b0 : (a0_0 == a1_0) = false := beq_eq_false_iff_ne.mpr c3
    have c3b1 : (a0_0 != a1_0) = true := bne_iff_ne.mpr c3
    obtain rfl := Option.some.inj H
    go_enter Tryd.func59, Tryd.ntmps59
    go_wp2_with (first | ((with_reducible refine gate_dst (N := 2) rfl ?_); refine box_event ?hg (N := 2) ?hd (cs := #[.int .i64 a0_0, .int .i64 a0_1, .int .i64 a0_2, .slice A0_3 l0_3.length c0_3]) (t := 28) ?hr ?_; (case hd => rfl); (case hg => rfl); (case hr => first | (go_simp; done) | (go_simp; rfl)); intro gb382 hg w22 hbox hb; have n0_ := Aside0.mk (below_step (by repeat (first | (with_reducible first | exact HB.out | apply below_alloc | apply pw_below_drewN | apply below_drew1) | exact HB.out)) hb); have n1_ := Aside0.mk (hbox); have n2_ := Aside0.mk ((by rw [hg]; exact (below_size (by repeat (first | (with_reducible first | exact HB.out | apply below_alloc | apply pw_below_drewN | apply below_drew1) | exact HB.out))) : w.heap.size ≤ gb382)); have n3_ := Aside0.mk ((by rw [hg]; exact (below_size (by repeat (first | (with_reducible first | exact HB.out | apply below_alloc | apply pw_below_drewN | apply below_drew1) | exact HB.out))) : w.heap.size ≤ gb382)); clear HB; have HB := n0_; have BK382 := n1_; have GW382 := n2_; have GE382 := n3_; clear n0_ n1_ n2_ n3_; clear hb hbox hg) | ((with_reducible refine gate_dst (N := 3) rfl ?_); refine box_event ?hg (N := 3) ?hd (cs := #[.int .i64 a1_0, .int .i64 a1_1, .int .i64 a1_2, .slice A1_3 l1_3.length c1_3]) (t := 28) ?hr ?_; (case hd => rfl); (case hg => rfl); (case hr => first | (go_simp; done) | (go_simp; rfl)); intro gb383 hg w23 hbox hb; have n0_ := Aside0.mk (blk_below (g := gb382) (o := .cells #[.int .i64 a0_0, .int .i64 a0_1, .int .i64 a0_2, .slice A0_3 l0_3.length c0_3] 28 (0, 0)) (by (with_reducible repeat (first | refine blk_drewN ?_ _ | refine blk_drew ?_ | refine blk_alloc ?_ _)); exact BK382.out) hb); have n1_ := Aside0.mk (below_step (by repeat (first | (with_reducible first | exact HB.out | apply below_alloc | apply pw_below_drewN | apply below_drew1 | refine below_set ?_ GE382.out) | exact HB.out)) hb); have n2_ := Aside0.mk (hbox); have n3_ := Aside0.mk ((by rw [hg]; exact (below_size (by repeat (first | (with_reducible first | exact HB.out | apply below_alloc | apply pw_below_drewN | apply below_drew1 | refine below_set ?_ GE382.out) | exact HB.out))) : w.heap.size ≤ gb383)); have n4_ := Aside0.mk ((by rw [hg]; exact (below_size (by repeat (first | (with_reducible first | exact HB.out | apply below_alloc | apply pw_below_drewN | apply below_drew1 | refine below_set ?_ GE382.out) | exact HB.out))) : w.heap.size ≤ gb383)); have n5_ := Aside0.mk ((by rw [hg]; exact Nat.ne_of_lt (blk_lt (g := gb382) (o := .cells #[.int .i64 a0_0, .int .i64 a0_1, .int .i64 a0_2, .slice A0_3 l0_3.length c0_3] 28 (0, 0)) (by (with_reducible repeat (first | refine blk_drewN ?_ _ | refine blk_drew ?_ | refine blk_alloc ?_ _)); exact BK382.out)) : gb382 ≠ gb383)); have n6_ := Aside0.mk ((by rw [hg]; exact Nat.ne_of_gt (blk_lt (g := gb382) (o := .cells #[.int .i64 a0_0, .int .i64 a0_1, .int .i64 a0_2, .slice A0_3 l0_3.length c0_3] 28 (0, 0)) (by (with_reducible repeat (first | refine blk_drewN ?_ _ | refine blk_drew ?_ | refine blk_alloc ?_ _)); exact BK382.out)) : gb383 ≠ gb382)); clear BK382; clear HB; have BK382 := n0_; have HB := n1_; have BK383 := n2_; have GW383 := n3_; have GE383 := n4_; have NB382_383 := n5_; have NB383_382 := n6_; clear n0_ n1_ n2_ n3_ n4_ n5_ n6_; clear hb hbox hg; have hnb24 := NB382_383.out; have hnc24 := NB383_382.out; have hcz25_0 : w23.cell? ⟨gb382, 0, none⟩ = some (.int .i64 a0_0) := (blk_cell BK382.out 0).trans rfl; have hcz25_1 : w23.cell? ⟨gb382, 1, none⟩ = some (.int .i64 a0_1) := (blk_cell BK382.out 1).trans rfl; have hcz25_2 : w23.cell? ⟨gb382, 2, none⟩ = some (.int .i64 a0_2) := (blk_cell BK382.out 2).trans rfl; have hcz25_3 : w23.cell? ⟨gb382, 3, none⟩ = some (.slice A0_3 l0_3.length c0_3) := (blk_cell BK382.out 3).trans rfl; have hfz25_0 := blk_frozen BK382.out 0; have hfz25_1 := blk_frozen BK382.out 1; have hfz25_2 := blk_frozen BK382.out 2; have hfz25_3 := blk_frozen BK382.out 3; have hcz26_0 : w23.cell? ⟨gb383, 0, none⟩ = some (.int .i64 a1_0) := (blk_cell BK383.out 0).trans rfl; have hcz26_1 : w23.cell? ⟨gb383, 1, none⟩ = some (.int .i64 a1_1) := (blk_cell BK383.out 1).trans rfl; have hcz26_2 : w23.cell? ⟨gb383, 2, none⟩ = some (.int .i64 a1_2) := (blk_cell BK383.out 2).trans rfl; have hcz26_3 : w23.cell? ⟨gb383, 3, none⟩ = some (.slice A1_3 l1_3.length c1_3) := (blk_cell BK383.out 3).trans rfl; have hfz26_0 := blk_frozen BK383.out 0; have hfz26_1 := blk_frozen BK383.out 1; have hfz26_2 := blk_frozen BK383.out 2; have hfz26_3 := blk_frozen BK383.out 3))
    go_ret
    exact ⟨by first | rfl | (simp [errW_none, errW_some] <;> rfl) | (simp [*, errW_none, errW_some] <;> rfl), by repeat (first | (with_reducible first | exact HB.out | apply below_alloc | apply pw_below_drewN | apply below_drew1 | refine below_set ?_ GE382.out | refine below_set ?_ GE383.out) | exact HB.out)⟩
def squintlaw08_sameCode.l0 : Nat → List (S28) → List (S28) → Int → Option (Bool)
  | 0, _, _, _ => none
  | k + 1, x0, x1, x5 => if x5 < (x0.length : Int) then (if 0 ≤ x5 then (if x5 < (x1.length : Int) then ((squintlaw08_sameIns.f k ((rd_T28 x0 x5).f0) ((rd_T28 x0 x5).f1) ((rd_T28 x0 x5).f2) ((rd_T28 x0 x5).f3) ((rd_T28 x1 x5).f0) ((rd_T28 x1 x5).f1) ((rd_T28 x1 x5).f2) ((rd_T28 x1 x5).f3)).bind fun t387 => (if t387 = true then (squintlaw08_sameCode.l0 k x0 x1 (wrap64 (x5 + 1))) else (some false))) else (none)) else (none)) else (some true)
def squintlaw08_sameCode.f (k : Nat) (l0 : List (S28)) (l1 : List (S28)) : Option (Bool) := if (l0.length : Int) = (l1.length : Int) then (squintlaw08_sameCode.l0 k l0 l1 0) else (some false)
def squintlaw08_sameCode.T6 : Bool × List (List Nat × List Nat) := (true, [([], []), ([], []), ([0, 1], [0, 1]), ([2], [2]), ([], []), ([], []), ([4, 5], [4, 5]), ([6], [6]), ([3, 7], [3, 7]), ([8], [8])])
def squintlaw08_sameCode.B6 : List Nat := [0, 0, 3, 7, 0, 0, 48, 112, 255, 511]
theorem squintlaw08_sameCode.tab6 : rtab .any (opsOf Tryd.f47 6) = squintlaw08_sameCode.T6 := by kernel_rfl
theorem squintlaw08_sameCode.bits6 : waitsOk squintlaw08_sameCode.T6.2 squintlaw08_sameCode.B6 = true := by kernel_rfl
set_option maxHeartbeats 8000000 in
set_option maxRecDepth 100000 in
theorem squintlaw08_sameCode.calls (k : Nat) (A0 : Option Addr) (c0 : Nat) (l0 : List (S28)) (A1 : Option Addr) (c1 : Nat) (l1 : List (S28)) (r : Bool) (w : World) (hr0 : Kd.C k28 w A0 l0.length l0) (hc0 : l0.length ≤ c0) (hr1 : Kd.C k28 w A1 l1.length l1) (hc1 : l1.length ≤ c1) (h : squintlaw08_sameCode.f k l0 l1 = some r) :
    Calls Tryd.prog 47 #[.slice A0 l0.length c0, .slice A1 l1.length c1] w fun e w' => e = .returned (.bool r) ∧ Below w.heap.size w w' := by
  have hu28 := Tryd.underlying28
  have HR0 := Aside0.mk hr0
  have HC0 := Aside0.mk hc0
  clear hr0 hc0
  have HR1 := Aside0.mk hr1
  have HC1 := Aside0.mk hc1
  clear hr1 hc1
  have HB := Aside0.mk (Below.refl w.heap.size w)
  have H : (if (l0.length : Int) = (l1.length : Int) then (squintlaw08_sameCode.l0 k l0 l1 0) else (some false)) = some r := h
  clear h
  by_cases c3 : (l0.length : Int) = (l1.length : Int)
  · rw [if_pos c3] at H
    have c3b0 : ((l0.length : Int) == (l1.length : Int)) = true := beq_iff_eq.mpr c3
    have c3b1 : ((l0.length : Int) != (l1.length : Int)) = false := bne_eq_false_iff_eq.mpr c3
    have c3b2 : (l0.length == l1.length) = true := by first | simpa using c3 | (simp at c3 ⊢; omega)
    clear c3
    have H' := Aside0.mk H
    clear H
    go_enter Tryd.func47, Tryd.ntmps47
    go_wp2
    go_loopg [5] k (fun kq v5 w' => ∃ (x5_1 : Int), v5 = .int .i64 x5_1 ∧ Aside0 (squintlaw08_sameCode.l0 kq l0 l1 x5_1 = some r) ∧ Aside0 (kq ≤ k) ∧ Aside0 (Below w.heap.size w w'))
    case atStart => exact ⟨(0), (by first | rfl | (simp; done) | (simp [*]; done)), H', ⟨Nat.le_refl _⟩, ⟨by repeat (first | (with_reducible first | exact HB.out | apply below_alloc | apply pw_below_drewN | apply below_drew1) | exact HB.out)⟩⟩
    case round =>
      clear H'
      try clear c1
      try clear p2
      try clear c3
      try clear c3b0
      try clear c3b1
      try clear c3b2
      obtain ⟨x5_1, rfl, HA, HK1, HB⟩ := hrel
      cases gk with
      | zero => exact absurd HA.out (by simp [squintlaw08_sameCode.l0])
      | succ k1 =>
        have H := HA.out
        clear HA
        simp only [squintlaw08_sameCode.l0] at H
        by_cases c4 : x5_1 < (l0.length : Int)
        · rw [if_pos c4] at H
          have c4b0 : decide (x5_1 < (l0.length : Int)) = true := decide_eq_true c4
          clear c4
          by_cases c5 : 0 ≤ x5_1
          · rw [if_pos c5] at H
            have c5b0 : decide (0 ≤ x5_1) = true := decide_eq_true c5
            clear c5
            by_cases c6 : x5_1 < (l1.length : Int)
            · rw [if_pos c6] at H
              have c6b0 : decide (x5_1 < (l1.length : Int)) = true := decide_eq_true c6
              clear c6
              replace H := Option.bind_eq_some_iff.mp H
              obtain ⟨t387, A70, H⟩ := H
              replace H : (if t387 = true then (squintlaw08_sameCode.l0 k1 l0 l1 (wrap64 (x5_1 + 1))) else (some false)) = some r := H
              have A7 := Aside0.mk A70
              clear A70
              by_cases c8 : t387 = true
              · subst c8
                have H1 : (squintlaw08_sameCode.l0 k1 l0 l1 (wrap64 (x5_1 + 1))) = some r := by rw [if_pos rfl] at H; exact H
                clear H
                have H := H1
                clear H1
                have H' := Aside0.mk H
                clear H
                try go_wp2
                have n0_ := Aside0.mk (below_drew1 HB.out)
                clear HB
                have HB := n0_
                clear n0_
                have p385 : 0 ≤ (x5_1 : Int) := of_decide_eq_true (by first | (with_reducible assumption) | assumption)
                have q385 : x5_1 < (l0.length : Int) := of_decide_eq_true (by first | (with_reducible assumption) | assumption)
                obtain ⟨ad385, A385_3, c385_3, e385, hx385_0, hx385_1, hx385_2, hx385_3, hl385_3, hi385_3⟩ := at_T28 HR0.out x5_1 p385 q385
                have hw385_3 := hx385_3
                have hw385_2 := hx385_2
                have hw385_1 := hx385_1
                have hw385_0 := hx385_0
                cases e385
                replace hx385_0 := (HB.out.cell (World.block_lt_of_cell? w _ hx385_0)).trans hx385_0
                replace hx385_1 := (HB.out.cell (World.block_lt_of_cell? w _ hx385_1)).trans hx385_1
                replace hx385_2 := (HB.out.cell (World.block_lt_of_cell? w _ hx385_2)).trans hx385_2
                replace hx385_3 := (HB.out.cell (World.block_lt_of_cell? w _ hx385_3)).trans hx385_3
                have HR385_3 := Aside0.mk hi385_3
                have HC385_3 := Aside0.mk hl385_3
                clear hi385_3 hl385_3
                replace p385 := eq_true p385
                replace q385 := eq_true q385
                have p386 : 0 ≤ (x5_1 : Int) := of_decide_eq_true (by first | (with_reducible assumption) | assumption)
                have q386 : x5_1 < (l1.length : Int) := of_decide_eq_true (by first | (with_reducible assumption) | assumption)
                obtain ⟨ad386, A386_3, c386_3, e386, hx386_0, hx386_1, hx386_2, hx386_3, hl386_3, hi386_3⟩ := at_T28 HR1.out x5_1 p386 q386
                have hw386_3 := hx386_3
                have hw386_2 := hx386_2
                have hw386_1 := hx386_1
                have hw386_0 := hx386_0
                cases e386
                replace hx386_0 := (HB.out.cell (World.block_lt_of_cell? w _ hx386_0)).trans hx386_0
                replace hx386_1 := (HB.out.cell (World.block_lt_of_cell? w _ hx386_1)).trans hx386_1
                replace hx386_2 := (HB.out.cell (World.block_lt_of_cell? w _ hx386_2)).trans hx386_2
                replace hx386_3 := (HB.out.cell (World.block_lt_of_cell? w _ hx386_3)).trans hx386_3
                have HR386_3 := Aside0.mk hi386_3
                have HC386_3 := Aside0.mk hl386_3
                clear hi386_3 hl386_3
                replace p386 := eq_true p386
                replace q386 := eq_true q386
                refine start_ (n := 10) (S := fun w' => w'.cell? (ad385.add ((x5_1).toNat * 4)) = some (.int .i64 ((rd_T28 l0 x5_1).f0)) ∧ w'.cell? ⟨(ad385.add ((x5_1).toNat * 4)).block, (ad385.add ((x5_1).toNat * 4)).off + 1, none⟩ = some (.int .i64 ((rd_T28 l0 x5_1).f1)) ∧ w'.cell? ⟨(ad385.add ((x5_1).toNat * 4)).block, (ad385.add ((x5_1).toNat * 4)).off + 2, none⟩ = some (.int .i64 ((rd_T28 l0 x5_1).f2)) ∧ w'.cell? ⟨(ad385.add ((x5_1).toNat * 4)).block, (ad385.add ((x5_1).toNat * 4)).off + 3, none⟩ = some (.slice A385_3 ((rd_T28 l0 x5_1).f3).length c385_3) ∧ w'.cell? (ad386.add ((x5_1).toNat * 4)) = some (.int .i64 ((rd_T28 l1 x5_1).f0)) ∧ w'.cell? ⟨(ad386.add ((x5_1).toNat * 4)).block, (ad386.add ((x5_1).toNat * 4)).off + 1, none⟩ = some (.int .i64 ((rd_T28 l1 x5_1).f1)) ∧ w'.cell? ⟨(ad386.add ((x5_1).toNat * 4)).block, (ad386.add ((x5_1).toNat * 4)).off + 2, none⟩ = some (.int .i64 ((rd_T28 l1 x5_1).f2)) ∧ w'.cell? ⟨(ad386.add ((x5_1).toNat * 4)).block, (ad386.add ((x5_1).toNat * 4)).off + 3, none⟩ = some (.slice A386_3 ((rd_T28 l1 x5_1).f3).length c386_3)) (ds := []) #[false, false, false, false, false, false, false, false, false, false] (by kernel_rfl) rfl rfl ⟨((HB.out.cell (World.block_lt_of_cell? w _ hw385_0)).trans hw385_0), ((HB.out.cell (World.block_lt_of_cell? w _ hw385_1)).trans hw385_1), ((HB.out.cell (World.block_lt_of_cell? w _ hw385_2)).trans hw385_2), ((HB.out.cell (World.block_lt_of_cell? w _ hw385_3)).trans hw385_3), ((HB.out.cell (World.block_lt_of_cell? w _ hw386_0)).trans hw386_0), ((HB.out.cell (World.block_lt_of_cell? w _ hw386_1)).trans hw386_1), ((HB.out.cell (World.block_lt_of_cell? w _ hw386_2)).trans hw386_2), ((HB.out.cell (World.block_lt_of_cell? w _ hw386_3)).trans hw386_3)⟩ (fun hHeld => ?_); refine with_tabW squintlaw08_sameCode.tab6 squintlaw08_sameCode.bits6 (fun HT_ HW_ => ?_)
                generalize wr.drew = w9 at HB HR385_3 HR386_3 hx385_0 hx385_1 hx385_2 hx385_3 hx386_0 hx386_1 hx386_2 hx386_3 hHeld ⊢
                refine pure_ (i := 0) (N := some 17) (v := ?_) (a' := ?_) #[true, false, false, false, false, false, false, false, false, false] rfl rfl (any_of HT_.out (by kernel_rfl)) (fun _ _ _ h => h) (Or.inl ⟨by rfl, ?_⟩) ?_ ?_
                rotate_left
                · intro w'
                  go_simp
                  with_reducible rfl
                rotate_left
                · simp only [Act.put, List.setIfInBounds_toArray, List.set_cons_zero, List.set_cons_succ, i64_w, i32_w]
                  rfl
                refine pure_ (i := 1) (N := some 18) (v := ?_) (a' := ?_) #[true, true, false, false, false, false, false, false, false, false] rfl rfl (any_of HT_.out (by kernel_rfl)) (fun _ _ _ h => h) (Or.inl ⟨by rfl, ?_⟩) ?_ ?_
                rotate_left
                · intro w'
                  go_simp
                  with_reducible rfl
                rotate_left
                · simp only [Act.put, List.setIfInBounds_toArray, List.set_cons_zero, List.set_cons_succ, i64_w, i32_w]
                  rfl
                refine pure_ (i := 2) (N := some 19) (v := ?_) (a' := ?_) #[true, true, true, false, false, false, false, false, false, false] rfl rfl (any_of HT_.out (by kernel_rfl)) (fun _ _ _ h => h) (Or.inl ⟨by rfl, ?_⟩) ?_ ?_
                rotate_left
                · intro w'
                  go_simp
                  with_reducible rfl
                rotate_left
                · simp only [Act.put, List.setIfInBounds_toArray, List.set_cons_zero, List.set_cons_succ, i64_w, i32_w]
                  rfl
                refine pure_ (i := 4) (N := some 21) (v := ?_) (a' := ?_) #[true, true, true, false, true, false, false, false, false, false] rfl rfl (any_of HT_.out (by kernel_rfl)) (fun _ _ _ h => h) (Or.inl ⟨by rfl, ?_⟩) ?_ ?_
                rotate_left
                · intro w'
                  go_simp
                  with_reducible rfl
                rotate_left
                · simp only [Act.put, List.setIfInBounds_toArray, List.set_cons_zero, List.set_cons_succ, i64_w, i32_w]
                  rfl
                refine pure_ (i := 5) (N := some 22) (v := ?_) (a' := ?_) #[true, true, true, false, true, true, false, false, false, false] rfl rfl (any_of HT_.out (by kernel_rfl)) (fun _ _ _ h => h) (Or.inl ⟨by rfl, ?_⟩) ?_ ?_
                rotate_left
                · intro w'
                  go_simp
                  with_reducible rfl
                rotate_left
                · simp only [Act.put, List.setIfInBounds_toArray, List.set_cons_zero, List.set_cons_succ, i64_w, i32_w]
                  rfl
                refine pure_ (i := 6) (N := some 23) (v := ?_) (a' := ?_) #[true, true, true, false, true, true, true, false, false, false] rfl rfl (any_of HT_.out (by kernel_rfl)) (fun _ _ _ h => h) (Or.inl ⟨by rfl, ?_⟩) ?_ ?_
                rotate_left
                · intro w'
                  go_simp
                  with_reducible rfl
                rotate_left
                · simp only [Act.put, List.setIfInBounds_toArray, List.set_cons_zero, List.set_cons_succ, i64_w, i32_w]
                  rfl
                refine take_ (i := 3) (N := some 20) (v := ?_) (a' := ?_) #[true, true, true, true, true, true, true, false, false, false] rfl rfl (take_ofW HT_.out HW_.out (by kernel_rfl)) (fun _ _ _ h => h) (Or.inl ⟨by rfl, ?_⟩) hHeld ?_ ?_
                rotate_left
                · rintro w' ⟨s0, s1, s2, s3, s4, s5, s6, s7⟩
                  go_simp
                  with_reducible rfl
                rotate_left
                · simp only [Act.put, List.setIfInBounds_toArray, List.set_cons_zero, List.set_cons_succ, i64_w, i32_w]
                  rfl
                refine take_ (i := 7) (N := some 24) (v := ?_) (a' := ?_) #[true, true, true, true, true, true, true, true, false, false] rfl rfl (take_ofW HT_.out HW_.out (by kernel_rfl)) (fun _ _ _ h => h) (Or.inl ⟨by rfl, ?_⟩) hHeld ?_ ?_
                rotate_left
                · rintro w' ⟨s0, s1, s2, s3, s4, s5, s6, s7⟩
                  go_simp
                  with_reducible rfl
                rotate_left
                · simp only [Act.put, List.setIfInBounds_toArray, List.set_cons_zero, List.set_cons_succ, i64_w, i32_w]
                  rfl
                refine one_ (i := 8) (N := some 25) #[true, true, true, true, true, true, true, true, true, false] rfl rfl (one_of HT_.out (by kernel_rfl)) (by decide) (fun K hK => ?_)
                refine goes_ Tryd.func59 (by kernel_rfl) rfl #[.agg #[.int .i64 ((rd_T28 l0 x5_1).f0), .int .i64 ((rd_T28 l0 x5_1).f1), .int .i64 ((rd_T28 l0 x5_1).f2), .slice A385_3 ((rd_T28 l0 x5_1).f3).length c385_3], .agg #[.int .i64 ((rd_T28 l1 x5_1).f0), .int .i64 ((rd_T28 l1 x5_1).f1), .int .i64 ((rd_T28 l1 x5_1).f2), .slice A386_3 ((rd_T28 l1 x5_1).f3).length c386_3]] (by rfl) rfl rfl (by (try simp only [List.map_toArray, List.map_cons, List.map_nil]); first | done | rfl | (simp only [List.length_drop, List.length_take]; rfl)) ?_
                with_reducible refine (squintlaw08_sameIns.calls k1 ((rd_T28 l0 x5_1).f0) ((rd_T28 l0 x5_1).f1) ((rd_T28 l0 x5_1).f2) _ _ ((rd_T28 l0 x5_1).f3) ((rd_T28 l1 x5_1).f0) ((rd_T28 l1 x5_1).f1) ((rd_T28 l1 x5_1).f2) _ _ ((rd_T28 l1 x5_1).f3) true _ ?side1 ?side2 ?side3 ?side4 A7.out).mono ?_
                (case side1 => repeat (first | exact (Kd.C_below HR385_3.out HB.out) | (with_reducible refine Kd.C_alloc ?_ _) | (with_reducible refine Kd.C_drewN ?_ _) | (with_reducible refine Kd.C_drew ?_)))
                (case side2 => exact HC385_3.out)
                (case side3 => repeat (first | exact (Kd.C_below HR386_3.out HB.out) | (with_reducible refine Kd.C_alloc ?_ _) | (with_reducible refine Kd.C_drewN ?_ _) | (with_reducible refine Kd.C_drew ?_)))
                (case side4 => exact HC386_3.out)
                rintro e w10 ⟨rfl, hb⟩
                refine ⟨_, rfl, ?_⟩
                have n0_ := Aside0.mk (below_step (by repeat (first | (with_reducible first | exact HB.out | apply below_alloc | apply pw_below_drewN | apply below_drew1) | exact HB.out)) hb)
                clear HB
                have HB := n0_
                clear n0_
                (try clear hb)
                (try clear hb2)
                (try clear hk)
                (try clear hi)
                refine hK.out _ _ ⟨((HB.out.cell (World.block_lt_of_cell? w _ hw385_0)).trans hw385_0), ((HB.out.cell (World.block_lt_of_cell? w _ hw385_1)).trans hw385_1), ((HB.out.cell (World.block_lt_of_cell? w _ hw385_2)).trans hw385_2), ((HB.out.cell (World.block_lt_of_cell? w _ hw385_3)).trans hw385_3), ((HB.out.cell (World.block_lt_of_cell? w _ hw386_0)).trans hw386_0), ((HB.out.cell (World.block_lt_of_cell? w _ hw386_1)).trans hw386_1), ((HB.out.cell (World.block_lt_of_cell? w _ hw386_2)).trans hw386_2), ((HB.out.cell (World.block_lt_of_cell? w _ hw386_3)).trans hw386_3)⟩ (fun hHeld => ?_)
                clear hK K
                refine norm_ (a' := ?_) ?_ ?_
                rotate_left
                · show Act.put _ (some 25) _ = _
                  simp only [Act.put, List.setIfInBounds_toArray, List.set_cons_zero, List.set_cons_succ, i64_w, i32_w]
                  rfl
                refine pure_ (i := 9) (N := some 26) (v := ?_) (a' := ?_) #[true, true, true, true, true, true, true, true, true, true] rfl rfl (any_of HT_.out (by kernel_rfl)) (fun _ _ _ h => h) (Or.inl ⟨by rfl, ?_⟩) ?_ ?_
                rotate_left
                · intro w'
                  go_simp
                  with_reducible rfl
                rotate_left
                · simp only [Act.put, List.setIfInBounds_toArray, List.set_cons_zero, List.set_cons_succ, i64_w, i32_w]
                  rfl
                refine done_ (done_of HT_.out (by kernel_rfl)) ?_
                try go_wp2
                go_roundg k1
                case measure => have := HK1.out; omega
                case rel => exact ⟨(wrap64 (x5_1 + 1)), (by first | rfl | (simp; done) | (simp [*]; done)), H', ⟨by have := HK1.out; omega⟩, ⟨by repeat (first | (with_reducible first | exact HB.out | apply below_alloc | apply pw_below_drewN | apply below_drew1) | exact HB.out)⟩⟩
              · replace c8 := Bool.eq_false_iff.mpr c8
                subst c8
                have H1 : (some false) = some r := by rw [if_neg (show ¬ (false = true) by decide)] at H; exact H
                clear H
                have H := H1
                clear H1
                obtain rfl := Option.some.inj H
                try go_wp2
                have n0_ := Aside0.mk (below_drew1 HB.out)
                clear HB
                have HB := n0_
                clear n0_
                have p385 : 0 ≤ (x5_1 : Int) := of_decide_eq_true (by first | (with_reducible assumption) | assumption)
                have q385 : x5_1 < (l0.length : Int) := of_decide_eq_true (by first | (with_reducible assumption) | assumption)
                obtain ⟨ad385, A385_3, c385_3, e385, hx385_0, hx385_1, hx385_2, hx385_3, hl385_3, hi385_3⟩ := at_T28 HR0.out x5_1 p385 q385
                have hw385_3 := hx385_3
                have hw385_2 := hx385_2
                have hw385_1 := hx385_1
                have hw385_0 := hx385_0
                cases e385
                replace hx385_0 := (HB.out.cell (World.block_lt_of_cell? w _ hx385_0)).trans hx385_0
                replace hx385_1 := (HB.out.cell (World.block_lt_of_cell? w _ hx385_1)).trans hx385_1
                replace hx385_2 := (HB.out.cell (World.block_lt_of_cell? w _ hx385_2)).trans hx385_2
                replace hx385_3 := (HB.out.cell (World.block_lt_of_cell? w _ hx385_3)).trans hx385_3
                have HR385_3 := Aside0.mk hi385_3
                have HC385_3 := Aside0.mk hl385_3
                clear hi385_3 hl385_3
                replace p385 := eq_true p385
                replace q385 := eq_true q385
                have p386 : 0 ≤ (x5_1 : Int) := of_decide_eq_true (by first | (with_reducible assumption) | assumption)
                have q386 : x5_1 < (l1.length : Int) := of_decide_eq_true (by first | (with_reducible assumption) | assumption)
                obtain ⟨ad386, A386_3, c386_3, e386, hx386_0, hx386_1, hx386_2, hx386_3, hl386_3, hi386_3⟩ := at_T28 HR1.out x5_1 p386 q386
                have hw386_3 := hx386_3
                have hw386_2 := hx386_2
                have hw386_1 := hx386_1
                have hw386_0 := hx386_0
                cases e386
                replace hx386_0 := (HB.out.cell (World.block_lt_of_cell? w _ hx386_0)).trans hx386_0
                replace hx386_1 := (HB.out.cell (World.block_lt_of_cell? w _ hx386_1)).trans hx386_1
                replace hx386_2 := (HB.out.cell (World.block_lt_of_cell? w _ hx386_2)).trans hx386_2
                replace hx386_3 := (HB.out.cell (World.block_lt_of_cell? w _ hx386_3)).trans hx386_3
                have HR386_3 := Aside0.mk hi386_3
                have HC386_3 := Aside0.mk hl386_3
                clear hi386_3 hl386_3
                replace p386 := eq_true p386
                replace q386 := eq_true q386
                refine start_ (n := 10) (S := fun w' => w'.cell? (ad385.add ((x5_1).toNat * 4)) = some (.int .i64 ((rd_T28 l0 x5_1).f0)) ∧ w'.cell? ⟨(ad385.add ((x5_1).toNat * 4)).block, (ad385.add ((x5_1).toNat * 4)).off + 1, none⟩ = some (.int .i64 ((rd_T28 l0 x5_1).f1)) ∧ w'.cell? ⟨(ad385.add ((x5_1).toNat * 4)).block, (ad385.add ((x5_1).toNat * 4)).off + 2, none⟩ = some (.int .i64 ((rd_T28 l0 x5_1).f2)) ∧ w'.cell? ⟨(ad385.add ((x5_1).toNat * 4)).block, (ad385.add ((x5_1).toNat * 4)).off + 3, none⟩ = some (.slice A385_3 ((rd_T28 l0 x5_1).f3).length c385_3) ∧ w'.cell? (ad386.add ((x5_1).toNat * 4)) = some (.int .i64 ((rd_T28 l1 x5_1).f0)) ∧ w'.cell? ⟨(ad386.add ((x5_1).toNat * 4)).block, (ad386.add ((x5_1).toNat * 4)).off + 1, none⟩ = some (.int .i64 ((rd_T28 l1 x5_1).f1)) ∧ w'.cell? ⟨(ad386.add ((x5_1).toNat * 4)).block, (ad386.add ((x5_1).toNat * 4)).off + 2, none⟩ = some (.int .i64 ((rd_T28 l1 x5_1).f2)) ∧ w'.cell? ⟨(ad386.add ((x5_1).toNat * 4)).block, (ad386.add ((x5_1).toNat * 4)).off + 3, none⟩ = some (.slice A386_3 ((rd_T28 l1 x5_1).f3).length c386_3)) (ds := []) #[false, false, false, false, false, false, false, false, false, false] (by kernel_rfl) rfl rfl ⟨((HB.out.cell (World.block_lt_of_cell? w _ hw385_0)).trans hw385_0), ((HB.out.cell (World.block_lt_of_cell? w _ hw385_1)).trans hw385_1), ((HB.out.cell (World.block_lt_of_cell? w _ hw385_2)).trans hw385_2), ((HB.out.cell (World.block_lt_of_cell? w _ hw385_3)).trans hw385_3), ((HB.out.cell (World.block_lt_of_cell? w _ hw386_0)).trans hw386_0), ((HB.out.cell (World.block_lt_of_cell? w _ hw386_1)).trans hw386_1), ((HB.out.cell (World.block_lt_of_cell? w _ hw386_2)).trans hw386_2), ((HB.out.cell (World.block_lt_of_cell? w _ hw386_3)).trans hw386_3)⟩ (fun hHeld => ?_); refine with_tabW squintlaw08_sameCode.tab6 squintlaw08_sameCode.bits6 (fun HT_ HW_ => ?_)
                generalize wr.drew = w11 at HB HR385_3 HR386_3 hx385_0 hx385_1 hx385_2 hx385_3 hx386_0 hx386_1 hx386_2 hx386_3 hHeld ⊢
                refine pure_ (i := 0) (N := some 17) (v := ?_) (a' := ?_) #[true, false, false, false, false, false, false, false, false, false] rfl rfl (any_of HT_.out (by kernel_rfl)) (fun _ _ _ h => h) (Or.inl ⟨by rfl, ?_⟩) ?_ ?_
                rotate_left
                · intro w'
                  go_simp
                  with_reducible rfl
                rotate_left
                · simp only [Act.put, List.setIfInBounds_toArray, List.set_cons_zero, List.set_cons_succ, i64_w, i32_w]
                  rfl
                refine pure_ (i := 1) (N := some 18) (v := ?_) (a' := ?_) #[true, true, false, false, false, false, false, false, false, false] rfl rfl (any_of HT_.out (by kernel_rfl)) (fun _ _ _ h => h) (Or.inl ⟨by rfl, ?_⟩) ?_ ?_
                rotate_left
                · intro w'
                  go_simp
                  with_reducible rfl
                rotate_left
                · simp only [Act.put, List.setIfInBounds_toArray, List.set_cons_zero, List.set_cons_succ, i64_w, i32_w]
                  rfl
                refine pure_ (i := 2) (N := some 19) (v := ?_) (a' := ?_) #[true, true, true, false, false, false, false, false, false, false] rfl rfl (any_of HT_.out (by kernel_rfl)) (fun _ _ _ h => h) (Or.inl ⟨by rfl, ?_⟩) ?_ ?_
                rotate_left
                · intro w'
                  go_simp
                  with_reducible rfl
                rotate_left
                · simp only [Act.put, List.setIfInBounds_toArray, List.set_cons_zero, List.set_cons_succ, i64_w, i32_w]
                  rfl
                refine pure_ (i := 4) (N := some 21) (v := ?_) (a' := ?_) #[true, true, true, false, true, false, false, false, false, false] rfl rfl (any_of HT_.out (by kernel_rfl)) (fun _ _ _ h => h) (Or.inl ⟨by rfl, ?_⟩) ?_ ?_
                rotate_left
                · intro w'
                  go_simp
                  with_reducible rfl
                rotate_left
                · simp only [Act.put, List.setIfInBounds_toArray, List.set_cons_zero, List.set_cons_succ, i64_w, i32_w]
                  rfl
                refine pure_ (i := 5) (N := some 22) (v := ?_) (a' := ?_) #[true, true, true, false, true, true, false, false, false, false] rfl rfl (any_of HT_.out (by kernel_rfl)) (fun _ _ _ h => h) (Or.inl ⟨by rfl, ?_⟩) ?_ ?_
                rotate_left
                · intro w'
                  go_simp
                  with_reducible rfl
                rotate_left
                · simp only [Act.put, List.setIfInBounds_toArray, List.set_cons_zero, List.set_cons_succ, i64_w, i32_w]
                  rfl
                refine pure_ (i := 6) (N := some 23) (v := ?_) (a' := ?_) #[true, true, true, false, true, true, true, false, false, false] rfl rfl (any_of HT_.out (by kernel_rfl)) (fun _ _ _ h => h) (Or.inl ⟨by rfl, ?_⟩) ?_ ?_
                rotate_left
                · intro w'
                  go_simp
                  with_reducible rfl
                rotate_left
                · simp only [Act.put, List.setIfInBounds_toArray, List.set_cons_zero, List.set_cons_succ, i64_w, i32_w]
                  rfl
                refine take_ (i := 3) (N := some 20) (v := ?_) (a' := ?_) #[true, true, true, true, true, true, true, false, false, false] rfl rfl (take_ofW HT_.out HW_.out (by kernel_rfl)) (fun _ _ _ h => h) (Or.inl ⟨by rfl, ?_⟩) hHeld ?_ ?_
                rotate_left
                · rintro w' ⟨s0, s1, s2, s3, s4, s5, s6, s7⟩
                  go_simp
                  with_reducible rfl
                rotate_left
                · simp only [Act.put, List.setIfInBounds_toArray, List.set_cons_zero, List.set_cons_succ, i64_w, i32_w]
                  rfl
                refine take_ (i := 7) (N := some 24) (v := ?_) (a' := ?_) #[true, true, true, true, true, true, true, true, false, false] rfl rfl (take_ofW HT_.out HW_.out (by kernel_rfl)) (fun _ _ _ h => h) (Or.inl ⟨by rfl, ?_⟩) hHeld ?_ ?_
                rotate_left
                · rintro w' ⟨s0, s1, s2, s3, s4, s5, s6, s7⟩
                  go_simp
                  with_reducible rfl
                rotate_left
                · simp only [Act.put, List.setIfInBounds_toArray, List.set_cons_zero, List.set_cons_succ, i64_w, i32_w]
                  rfl
                refine one_ (i := 8) (N := some 25) #[true, true, true, true, true, true, true, true, true, false] rfl rfl (one_of HT_.out (by kernel_rfl)) (by decide) (fun K hK => ?_)
                refine goes_ Tryd.func59 (by kernel_rfl) rfl #[.agg #[.int .i64 ((rd_T28 l0 x5_1).f0), .int .i64 ((rd_T28 l0 x5_1).f1), .int .i64 ((rd_T28 l0 x5_1).f2), .slice A385_3 ((rd_T28 l0 x5_1).f3).length c385_3], .agg #[.int .i64 ((rd_T28 l1 x5_1).f0), .int .i64 ((rd_T28 l1 x5_1).f1), .int .i64 ((rd_T28 l1 x5_1).f2), .slice A386_3 ((rd_T28 l1 x5_1).f3).length c386_3]] (by rfl) rfl rfl (by (try simp only [List.map_toArray, List.map_cons, List.map_nil]); first | done | rfl | (simp only [List.length_drop, List.length_take]; rfl)) ?_
                with_reducible refine (squintlaw08_sameIns.calls k1 ((rd_T28 l0 x5_1).f0) ((rd_T28 l0 x5_1).f1) ((rd_T28 l0 x5_1).f2) _ _ ((rd_T28 l0 x5_1).f3) ((rd_T28 l1 x5_1).f0) ((rd_T28 l1 x5_1).f1) ((rd_T28 l1 x5_1).f2) _ _ ((rd_T28 l1 x5_1).f3) false _ ?side1 ?side2 ?side3 ?side4 A7.out).mono ?_
                (case side1 => repeat (first | exact (Kd.C_below HR385_3.out HB.out) | (with_reducible refine Kd.C_alloc ?_ _) | (with_reducible refine Kd.C_drewN ?_ _) | (with_reducible refine Kd.C_drew ?_)))
                (case side2 => exact HC385_3.out)
                (case side3 => repeat (first | exact (Kd.C_below HR386_3.out HB.out) | (with_reducible refine Kd.C_alloc ?_ _) | (with_reducible refine Kd.C_drewN ?_ _) | (with_reducible refine Kd.C_drew ?_)))
                (case side4 => exact HC386_3.out)
                rintro e w12 ⟨rfl, hb⟩
                refine ⟨_, rfl, ?_⟩
                have n0_ := Aside0.mk (below_step (by repeat (first | (with_reducible first | exact HB.out | apply below_alloc | apply pw_below_drewN | apply below_drew1) | exact HB.out)) hb)
                clear HB
                have HB := n0_
                clear n0_
                (try clear hb)
                (try clear hb2)
                (try clear hk)
                (try clear hi)
                refine hK.out _ _ ⟨((HB.out.cell (World.block_lt_of_cell? w _ hw385_0)).trans hw385_0), ((HB.out.cell (World.block_lt_of_cell? w _ hw385_1)).trans hw385_1), ((HB.out.cell (World.block_lt_of_cell? w _ hw385_2)).trans hw385_2), ((HB.out.cell (World.block_lt_of_cell? w _ hw385_3)).trans hw385_3), ((HB.out.cell (World.block_lt_of_cell? w _ hw386_0)).trans hw386_0), ((HB.out.cell (World.block_lt_of_cell? w _ hw386_1)).trans hw386_1), ((HB.out.cell (World.block_lt_of_cell? w _ hw386_2)).trans hw386_2), ((HB.out.cell (World.block_lt_of_cell? w _ hw386_3)).trans hw386_3)⟩ (fun hHeld => ?_)
                clear hK K
                refine norm_ (a' := ?_) ?_ ?_
                rotate_left
                · show Act.put _ (some 25) _ = _
                  simp only [Act.put, List.setIfInBounds_toArray, List.set_cons_zero, List.set_cons_succ, i64_w, i32_w]
                  rfl
                refine pure_ (i := 9) (N := some 26) (v := ?_) (a' := ?_) #[true, true, true, true, true, true, true, true, true, true] rfl rfl (any_of HT_.out (by kernel_rfl)) (fun _ _ _ h => h) (Or.inl ⟨by rfl, ?_⟩) ?_ ?_
                rotate_left
                · intro w'
                  go_simp
                  with_reducible rfl
                rotate_left
                · simp only [Act.put, List.setIfInBounds_toArray, List.set_cons_zero, List.set_cons_succ, i64_w, i32_w]
                  rfl
                refine done_ (done_of HT_.out (by kernel_rfl)) ?_
                try go_wp2
                go_ret
                exact ⟨by first | rfl | (simp [errW_none, errW_some] <;> rfl) | (simp [*, errW_none, errW_some] <;> rfl), by repeat (first | (with_reducible first | exact HB.out | apply below_alloc | apply pw_below_drewN | apply below_drew1) | exact HB.out)⟩
            · rw [if_neg c6] at H
              exact absurd H (by simp)
          · rw [if_neg c5] at H
            exact absurd H (by simp)
        · rw [if_neg c4] at H
          have c4b0 : decide (x5_1 < (l0.length : Int)) = false := decide_eq_false c4
          clear c4
          obtain rfl := Option.some.inj H
          go_wp2
          go_ret
          exact ⟨by first | rfl | (simp [errW_none, errW_some] <;> rfl) | (simp [*, errW_none, errW_some] <;> rfl), by repeat (first | (with_reducible first | exact HB.out | apply below_alloc | apply pw_below_drewN | apply below_drew1) | exact HB.out)⟩
  · rw [if_neg c3] at H
    have c3b0 : ((l0.length : Int) == (l1.length : Int)) = false := beq_eq_false_iff_ne.mpr c3
    have c3b1 : ((l0.length : Int) != (l1.length : Int)) = true := bne_iff_ne.mpr c3
    have c3b2 : (l0.length == l1.length) = false := by first | simpa using c3 | (simp at c3 ⊢; omega)
    obtain rfl := Option.some.inj H
    go_enter Tryd.func47, Tryd.ntmps47
    go_wp2
    go_ret
    exact ⟨by first | rfl | (simp [errW_none, errW_some] <;> rfl) | (simp [*, errW_none, errW_some] <;> rfl), by repeat (first | (with_reducible first | exact HB.out | apply below_alloc | apply pw_below_drewN | apply below_drew1) | exact HB.out)⟩
end Go.Proofs.YtfkfgjmhcfagkaaDoor.Print
end
section
namespace Go.Proofs.YtfkfgjmhcfagkaaDoor.Given
open Go.RowKit Go.Proofs.YtfkfgjmhcfagkaaDoorW.PrintWords Go.Proofs.YtfkfgjmhcfagkaaDoorW.PrintLast Go.Proofs.YtfkfgjmhcfagkaaDoorW.PrintMore Go.Proofs.YtfkfgjmhcfagkaaDoor.Print
set_option linter.unusedVariables false
set_option linter.unusedSimpArgs false
theorem bel2 {w W W2 : World} (hb : Below W.heap.size W W2) (h : Below w.heap.size w W) : Below w.heap.size w W2 := below_then h h.size hb
theorem sames_loop (l : List Int) (hl : l.length ≤ 4611686018427387904) : ∀ (n : Nat) (i : Int), 0 ≤ i → (l.length : Int) - i ≤ n → squintlaw08_sameInts.l0 (n + 1) l l i = some true
  | 0, i, h0, h => by
    unfold squintlaw08_sameInts.l0
    rw [if_neg (by omega)]
  | n + 1, i, h0, h => by
    unfold squintlaw08_sameInts.l0
    by_cases hi : i < (l.length : Int)
    · rw [if_pos hi, if_pos h0, if_pos hi, if_pos rfl, show wrap64 (i + 1) = i + 1 by simp only [wrap64]; omega]
      exact sames_loop l hl n _ (by omega) (by omega)
    · rw [if_neg hi]
theorem sames_self (l : List Int) (hl : l.length ≤ 4611686018427387904) (k : Nat) (hk : l.length < k) : squintlaw08_sameInts.f k l l = some true := by
  obtain ⟨n, rfl⟩ : ∃ n, k = n + 1 := ⟨k - 1, by omega⟩
  unfold squintlaw08_sameInts.f
  rw [if_pos rfl]
  exact sames_loop l hl n 0 (by omega) (by omega)
theorem samec_loop (l : List S28) (M : Nat) (hl : l.length ≤ 4611686018427387904) (hM : ∀ x ∈ l, x.f3.length < M ∧ x.f3.length ≤ 4611686018427387904) : ∀ (n : Nat) (i : Int), 0 ≤ i → (l.length : Int) - i ≤ n → squintlaw08_sameCode.l0 (n + 1 + M) l l i = some true
  | 0, i, h0, h => by
    rw [show 0 + 1 + M = M + 1 by omega]
    unfold squintlaw08_sameCode.l0
    rw [if_neg (by omega)]
  | n + 1, i, h0, h => by
    rw [show n + 1 + 1 + M = (n + 1 + M) + 1 by omega]
    unfold squintlaw08_sameCode.l0
    by_cases hi : i < (l.length : Int)
    · have hm : rd_T28 l i ∈ l := by
        have hlt : i.toNat < l.length := by omega
        have : rd_T28 l i = l[i.toNat] := by simp [rd_T28, hlt]
        rw [this]
        exact List.getElem_mem hlt
      obtain ⟨h1, h2⟩ := hM _ hm
      rw [if_pos hi, if_pos h0, if_pos hi]
      unfold squintlaw08_sameIns.f
      rw [if_pos rfl, if_pos rfl, if_pos rfl, sames_self _ h2 _ (by omega)]
      simp only [Option.bind_some, if_true]
      rw [show wrap64 (i + 1) = i + 1 by simp only [wrap64]; omega]
      exact samec_loop l M hl hM n _ (by omega) (by omega)
    · rw [if_neg hi]
theorem samec_self (l : List S28) (hl : l.length ≤ 4611686018427387904) (hM : ∀ x ∈ l, x.f3.length ≤ 4611686018427387904) : ∃ k, squintlaw08_sameCode.f k l l = some true := by
  refine ⟨l.length + 1 + 4611686018427387905, ?_⟩
  unfold squintlaw08_sameCode.f
  rw [if_pos rfl]
  exact samec_loop l _ hl (fun x hx => ⟨Nat.lt_succ_of_le (hM x hx), hM x hx⟩) l.length 0 (by omega) (by omega)
def sp6T : Bool × List (List Nat × List Nat) := (true, [([], []), ([], []), ([0, 1], [0, 1]), ([2], [2]), ([3], [3]), ([], []), ([], []), ([5, 6], [5, 6]), ([7], [7]), ([8], [8]), ([4, 9], [4, 9]), ([10], [10]), ([11], [11]), ([11], [11]), ([12, 13, 11], [11, 12, 13]), ([14, 11], [11, 14]), ([15, 11], [11, 15]), ([11], [11]), ([11], [11]), ([17, 18, 11], [11, 17, 18]), ([19, 11], [11, 19]), ([20, 11], [11, 20]), ([16, 21, 11], [11, 16, 21]), ([11, 22], [11, 22]), ([23, 11], [23]), ([24], [24]), ([24], [24]), ([25, 26, 24], [24, 25, 26]), ([27, 24], [24, 27]), ([28, 24], [24, 28]), ([24], [24]), ([24], [24]), ([30, 31, 24], [24, 30, 31]), ([32, 24], [24, 32]), ([33, 24], [24, 33]), ([29, 34, 24], [24, 29, 34]), ([24, 35], [24, 35]), ([36, 24], [36]), ([37], [37]), ([37], [37]), ([38, 39, 37], [37, 38, 39]), ([40, 37], [37, 40]), ([41, 37], [37, 41]), ([37], [37]), ([37], [37]), ([43, 44, 37], [37, 43, 44]), ([45, 37], [37, 45]), ([46, 37], [37, 46]), ([42, 47, 37], [37, 42, 47]), ([37, 48], [37, 48]), ([49, 37], [49]), ([50], [50]), ([50], [50]), ([51, 52, 50], [50, 51, 52]), ([53, 50], [50, 53]), ([54, 50], [50, 54]), ([50], [50]), ([50], [50]), ([56, 57, 50], [50, 56, 57]), ([58, 50], [50, 58]), ([59, 50], [50, 59]), ([55, 60, 50, 50], [50, 55, 60]), ([61, 50], [50, 61]), ([50, 62], [50, 62])])
def sp6B : List Nat := [0, 0, 3, 7, 15, 0, 0, 96, 224, 480, 1023, 2047, 4095, 4095, 16383, 32767, 65535, 4095, 4095, 397311, 921599, 1970175, 4194303, 8388607, 16777215, 33554431, 33554431, 134217727, 268435455, 536870911, 33554431, 33554431, 3254779903, 7549747199, 16139681791, 34359738367, 68719476735, 137438953471, 274877906943, 274877906943, 1099511627775, 2199023255551, 4398046511103, 274877906943, 274877906943, 26663156973567, 61847529062399, 132216273240063, 281474976710655, 562949953421311, 1125899906842623, 2251799813685247, 2251799813685247, 9007199254740991, 18014398509481983, 36028797018963967, 2251799813685247, 2251799813685247, 218424581927469055, 506654958079180799, 1083115710382604287, 2305843009213693951, 4611686018427387903, 9223372036854775807]
theorem sp6tab : rtab .any (opsOf Tryd.f46 6) = sp6T := by kernel_rfl
theorem sp6bits : waitsOk sp6T.2 sp6B = true := by kernel_rfl
set_option maxRecDepth 100000 in
set_option maxHeartbeats 4000000 in
theorem same_progs (A0 : Option Addr) (c0 : Nat) (A1 : Option Addr) (c1 : Nat) (ps : List S57) (w : World) (h0 : Kd.C k57 w A0 ps.length ps) (h1 : Kd.C k57 w A1 ps.length ps) (hb : ∀ p ∈ ps, p.f4.length ≤ 4611686018427387904 ∧ ∀ x ∈ p.f4, x.f3.length ≤ 4611686018427387904) :
    Calls Tryd.prog 46 #[.slice A0 ps.length c0, .slice A1 ps.length c1] w fun e w' => e = .returned (.bool true) ∧ Below w.heap.size w w' := by
  have hm := h0.2.1
  have H0 := Aside0.mk h0
  have H1 := Aside0.mk h1
  have HX := Aside0.mk hb
  clear h0 h1 hb
  go_enter Tryd.func46, Tryd.ntmps46
  go_wp2
  go_loopw [5] (fun i wr => ∃ k : Nat, i = .int .i64 k ∧ k ≤ ps.length ∧ Aside0 (Below w.heap.size w wr)) (fun i _ => ps.length - (intOf i).toNat)
  case atStart => exact ⟨0, rfl, by omega, ⟨Below.refl _ _⟩⟩
  case round =>
    obtain ⟨k, rfl, hk, HB⟩ := hrel
    by_cases hlt : k < ps.length
    · obtain ⟨ad, A4, c4, e, x0, x1, x2, x3, x4, hl, hi⟩ := at_T57 H0.out (k : Int) (by omega) (by omega)
      cases e
      obtain ⟨bd, B4, d4, e, z0, z1, z2, z3, z4, kl, ki⟩ := at_T57 H1.out (k : Int) (by omega) (by omega)
      cases e
      have hrd : rd_T57 ps (k : Int) = ps[k] := by simp [rd_T57, hlt]
      rw [hrd] at x0 x1 x2 x3 x4 hl hi z0 z1 z2 z3 z4 kl ki
      rw [Int.toNat_natCast] at x0 x1 x2 x3 x4 z0 z1 z2 z3 z4
      replace x0 := pw_cell_below HB.out x0
      replace x1 := pw_cell_below HB.out x1
      replace x2 := pw_cell_below HB.out x2
      replace x3 := pw_cell_below HB.out x3
      replace x4 := pw_cell_below HB.out x4
      replace z0 := pw_cell_below HB.out z0
      replace z1 := pw_cell_below HB.out z1
      replace z2 := pw_cell_below HB.out z2
      replace z3 := pw_cell_below HB.out z3
      replace z4 := pw_cell_below HB.out z4
      obtain ⟨hb1, hb2⟩ := HX.out ps[k] (List.getElem_mem hlt)
      obtain ⟨KC, hK⟩ := samec_self _ hb1 hb2
      generalize ps[k] = p at x0 x1 x2 x3 x4 hl hi z0 z1 z2 z3 z4 kl ki hK
      have HI := Aside0.mk hi
      have HK := Aside0.mk hK
      have KI := Aside0.mk ki
      have HL1 := Aside0.mk hl
      have HL2 := Aside0.mk kl
      clear hi ki hrd hK hb1 hb2 hl kl
      go_wp2_with (fail)
      refine start_ (n := 64) (S := fun w' => w'.cell? (ad.add (k * 5)) = some (.int .i64 p.f0) ∧ w'.cell? ⟨(ad.add (k * 5)).block, (ad.add (k * 5)).off + 1, none⟩ = some (.int .i64 p.f1) ∧ w'.cell? ⟨(ad.add (k * 5)).block, (ad.add (k * 5)).off + 2, none⟩ = some (.int .i64 p.f2) ∧ w'.cell? ⟨(ad.add (k * 5)).block, (ad.add (k * 5)).off + 3, none⟩ = some (.bool p.f3) ∧ w'.cell? ⟨(ad.add (k * 5)).block, (ad.add (k * 5)).off + 4, none⟩ = some (.slice A4 p.f4.length c4) ∧ w'.cell? (bd.add (k * 5)) = some (.int .i64 p.f0) ∧ w'.cell? ⟨(bd.add (k * 5)).block, (bd.add (k * 5)).off + 1, none⟩ = some (.int .i64 p.f1) ∧ w'.cell? ⟨(bd.add (k * 5)).block, (bd.add (k * 5)).off + 2, none⟩ = some (.int .i64 p.f2) ∧ w'.cell? ⟨(bd.add (k * 5)).block, (bd.add (k * 5)).off + 3, none⟩ = some (.bool p.f3) ∧ w'.cell? ⟨(bd.add (k * 5)).block, (bd.add (k * 5)).off + 4, none⟩ = some (.slice B4 p.f4.length d4)) (ds := []) #[false, false, false, false, false, false, false, false, false, false, false, false, false, false, false, false, false, false, false, false, false, false, false, false, false, false, false, false, false, false, false, false, false, false, false, false, false, false, false, false, false, false, false, false, false, false, false, false, false, false, false, false, false, false, false, false, false, false, false, false, false, false, false, false] (by kernel_rfl) rfl rfl ⟨x0, x1, x2, x3, x4, z0, z1, z2, z3, z4⟩ (fun hHeld => ?_)
      refine with_tabW sp6tab sp6bits (fun HT_ HW_ => ?_)
      have HB6 := Aside0.mk (below_drew1 HB.out)
      generalize wr.drew = w6 at HB6 hHeld ⊢
      refine pure_ (i := 0) (N := some 17) (v := ?_) (a' := ?_) #[true, false, false, false, false, false, false, false, false, false, false, false, false, false, false, false, false, false, false, false, false, false, false, false, false, false, false, false, false, false, false, false, false, false, false, false, false, false, false, false, false, false, false, false, false, false, false, false, false, false, false, false, false, false, false, false, false, false, false, false, false, false, false, false] rfl rfl (any_of HT_.out (by kernel_rfl)) (fun _ _ _ h => h) (Or.inl ⟨by rfl, ?_⟩) ?_ ?_
      rotate_left
      · intro w'
        go_simp
        with_reducible rfl
      rotate_left
      · simp only [Act.put, List.setIfInBounds_toArray, List.set_cons_zero, List.set_cons_succ, i64_w, i32_w]
        rfl
      refine pure_ (i := 1) (N := some 18) (v := ?_) (a' := ?_) #[true, true, false, false, false, false, false, false, false, false, false, false, false, false, false, false, false, false, false, false, false, false, false, false, false, false, false, false, false, false, false, false, false, false, false, false, false, false, false, false, false, false, false, false, false, false, false, false, false, false, false, false, false, false, false, false, false, false, false, false, false, false, false, false] rfl rfl (any_of HT_.out (by kernel_rfl)) (fun _ _ _ h => h) (Or.inl ⟨by rfl, ?_⟩) ?_ ?_
      rotate_left
      · intro w'
        go_simp
        with_reducible rfl
      rotate_left
      · simp only [Act.put, List.setIfInBounds_toArray, List.set_cons_zero, List.set_cons_succ, i64_w, i32_w]
        rfl
      refine pure_ (i := 2) (N := some 19) (v := ?_) (a' := ?_) #[true, true, true, false, false, false, false, false, false, false, false, false, false, false, false, false, false, false, false, false, false, false, false, false, false, false, false, false, false, false, false, false, false, false, false, false, false, false, false, false, false, false, false, false, false, false, false, false, false, false, false, false, false, false, false, false, false, false, false, false, false, false, false, false] rfl rfl (any_of HT_.out (by kernel_rfl)) (fun _ _ _ h => h) (Or.inl ⟨by rfl, ?_⟩) ?_ ?_
      rotate_left
      · intro w'
        go_simp
        with_reducible rfl
      rotate_left
      · simp only [Act.put, List.setIfInBounds_toArray, List.set_cons_zero, List.set_cons_succ, i64_w, i32_w]
        rfl
      refine pure_ (i := 3) (N := some 20) (v := ?_) (a' := ?_) #[true, true, true, true, false, false, false, false, false, false, false, false, false, false, false, false, false, false, false, false, false, false, false, false, false, false, false, false, false, false, false, false, false, false, false, false, false, false, false, false, false, false, false, false, false, false, false, false, false, false, false, false, false, false, false, false, false, false, false, false, false, false, false, false] rfl rfl (any_of HT_.out (by kernel_rfl)) (fun _ _ _ h => h) (Or.inl ⟨by rfl, ?_⟩) ?_ ?_
      rotate_left
      · intro w'
        go_simp
        with_reducible rfl
      rotate_left
      · simp only [Act.put, List.setIfInBounds_toArray, List.set_cons_zero, List.set_cons_succ, i64_w, i32_w]
        rfl
      refine take_ (i := 4) (N := some 21) (v := ?_) (a' := ?_) #[true, true, true, true, true, false, false, false, false, false, false, false, false, false, false, false, false, false, false, false, false, false, false, false, false, false, false, false, false, false, false, false, false, false, false, false, false, false, false, false, false, false, false, false, false, false, false, false, false, false, false, false, false, false, false, false, false, false, false, false, false, false, false, false] rfl rfl (take_ofW HT_.out HW_.out (by kernel_rfl)) (fun _ _ _ h => h) (Or.inl ⟨by rfl, ?_⟩) hHeld ?_ ?_
      rotate_left
      · rintro w' ⟨s0, s1, s2, s3, s4, s5, s6, s7, s8, s9⟩
        go_simp
        with_reducible rfl
      rotate_left
      · simp only [Act.put, List.setIfInBounds_toArray, List.set_cons_zero, List.set_cons_succ, i64_w, i32_w]
        rfl
      refine pure_ (i := 5) (N := some 22) (v := ?_) (a' := ?_) #[true, true, true, true, true, true, false, false, false, false, false, false, false, false, false, false, false, false, false, false, false, false, false, false, false, false, false, false, false, false, false, false, false, false, false, false, false, false, false, false, false, false, false, false, false, false, false, false, false, false, false, false, false, false, false, false, false, false, false, false, false, false, false, false] rfl rfl (any_of HT_.out (by kernel_rfl)) (fun _ _ _ h => h) (Or.inl ⟨by rfl, ?_⟩) ?_ ?_
      rotate_left
      · intro w'
        go_simp
        with_reducible rfl
      rotate_left
      · simp only [Act.put, List.setIfInBounds_toArray, List.set_cons_zero, List.set_cons_succ, i64_w, i32_w]
        rfl
      refine pure_ (i := 6) (N := some 23) (v := ?_) (a' := ?_) #[true, true, true, true, true, true, true, false, false, false, false, false, false, false, false, false, false, false, false, false, false, false, false, false, false, false, false, false, false, false, false, false, false, false, false, false, false, false, false, false, false, false, false, false, false, false, false, false, false, false, false, false, false, false, false, false, false, false, false, false, false, false, false, false] rfl rfl (any_of HT_.out (by kernel_rfl)) (fun _ _ _ h => h) (Or.inl ⟨by rfl, ?_⟩) ?_ ?_
      rotate_left
      · intro w'
        go_simp
        with_reducible rfl
      rotate_left
      · simp only [Act.put, List.setIfInBounds_toArray, List.set_cons_zero, List.set_cons_succ, i64_w, i32_w]
        rfl
      refine pure_ (i := 7) (N := some 24) (v := ?_) (a' := ?_) #[true, true, true, true, true, true, true, true, false, false, false, false, false, false, false, false, false, false, false, false, false, false, false, false, false, false, false, false, false, false, false, false, false, false, false, false, false, false, false, false, false, false, false, false, false, false, false, false, false, false, false, false, false, false, false, false, false, false, false, false, false, false, false, false] rfl rfl (any_of HT_.out (by kernel_rfl)) (fun _ _ _ h => h) (Or.inl ⟨by rfl, ?_⟩) ?_ ?_
      rotate_left
      · intro w'
        go_simp
        with_reducible rfl
      rotate_left
      · simp only [Act.put, List.setIfInBounds_toArray, List.set_cons_zero, List.set_cons_succ, i64_w, i32_w]
        rfl
      refine pure_ (i := 8) (N := some 25) (v := ?_) (a' := ?_) #[true, true, true, true, true, true, true, true, true, false, false, false, false, false, false, false, false, false, false, false, false, false, false, false, false, false, false, false, false, false, false, false, false, false, false, false, false, false, false, false, false, false, false, false, false, false, false, false, false, false, false, false, false, false, false, false, false, false, false, false, false, false, false, false] rfl rfl (any_of HT_.out (by kernel_rfl)) (fun _ _ _ h => h) (Or.inl ⟨by rfl, ?_⟩) ?_ ?_
      rotate_left
      · intro w'
        go_simp
        with_reducible rfl
      rotate_left
      · simp only [Act.put, List.setIfInBounds_toArray, List.set_cons_zero, List.set_cons_succ, i64_w, i32_w]
        rfl
      refine take_ (i := 9) (N := some 26) (v := ?_) (a' := ?_) #[true, true, true, true, true, true, true, true, true, true, false, false, false, false, false, false, false, false, false, false, false, false, false, false, false, false, false, false, false, false, false, false, false, false, false, false, false, false, false, false, false, false, false, false, false, false, false, false, false, false, false, false, false, false, false, false, false, false, false, false, false, false, false, false] rfl rfl (take_ofW HT_.out HW_.out (by kernel_rfl)) (fun _ _ _ h => h) (Or.inl ⟨by rfl, ?_⟩) hHeld ?_ ?_
      rotate_left
      · rintro w' ⟨s0, s1, s2, s3, s4, s5, s6, s7, s8, s9⟩
        go_simp
        with_reducible rfl
      rotate_left
      · simp only [Act.put, List.setIfInBounds_toArray, List.set_cons_zero, List.set_cons_succ, i64_w, i32_w]
        rfl
      refine pure_ (i := 10) (N := some 27) (v := ?_) (a' := ?_) #[true, true, true, true, true, true, true, true, true, true, true, false, false, false, false, false, false, false, false, false, false, false, false, false, false, false, false, false, false, false, false, false, false, false, false, false, false, false, false, false, false, false, false, false, false, false, false, false, false, false, false, false, false, false, false, false, false, false, false, false, false, false, false, false] rfl rfl (any_of HT_.out (by kernel_rfl)) (fun _ _ _ h => h) (Or.inl ⟨by rfl, ?_⟩) ?_ ?_
      rotate_left
      · intro w'
        go_simp
        with_reducible rfl
      rotate_left
      · simp only [Act.put, List.setIfInBounds_toArray, List.set_cons_zero, List.set_cons_succ, i64_w, i32_w]
        rfl
      refine pure_ (i := 11) (N := some 28) (v := ?_) (a' := ?_) #[true, true, true, true, true, true, true, true, true, true, true, true, false, false, false, false, false, false, false, false, false, false, false, false, false, false, false, false, false, false, false, false, false, false, false, false, false, false, false, false, false, false, false, false, false, false, false, false, false, false, false, false, false, false, false, false, false, false, false, false, false, false, false, false] rfl rfl (any_of HT_.out (by kernel_rfl)) (fun _ _ _ h => h) (Or.inl ⟨by rfl, ?_⟩) ?_ ?_
      rotate_left
      · intro w'
        go_simp
        with_reducible rfl
      rotate_left
      · simp only [Act.put, List.setIfInBounds_toArray, List.set_cons_zero, List.set_cons_succ, i64_w, i32_w]
        rfl
      refine pure_ (i := 12) (N := some 29) (v := ?_) (a' := ?_) #[true, true, true, true, true, true, true, true, true, true, true, true, true, false, false, false, false, false, false, false, false, false, false, false, false, false, false, false, false, false, false, false, false, false, false, false, false, false, false, false, false, false, false, false, false, false, false, false, false, false, false, false, false, false, false, false, false, false, false, false, false, false, false, false] rfl rfl (any_of HT_.out (by kernel_rfl)) (fun _ _ _ h => h) (Or.inl ⟨by rfl, ?_⟩) ?_ ?_
      rotate_left
      · intro w'
        go_simp
        with_reducible rfl
      rotate_left
      · simp only [Act.put, List.setIfInBounds_toArray, List.set_cons_zero, List.set_cons_succ, i64_w, i32_w]
        rfl
      refine pure_ (i := 13) (N := some 30) (v := ?_) (a' := ?_) #[true, true, true, true, true, true, true, true, true, true, true, true, true, true, false, false, false, false, false, false, false, false, false, false, false, false, false, false, false, false, false, false, false, false, false, false, false, false, false, false, false, false, false, false, false, false, false, false, false, false, false, false, false, false, false, false, false, false, false, false, false, false, false, false] rfl rfl (any_of HT_.out (by kernel_rfl)) (fun _ _ _ h => h) (Or.inl ⟨by rfl, ?_⟩) ?_ ?_
      rotate_left
      · intro w'
        go_simp
        with_reducible rfl
      rotate_left
      · simp only [Act.put, List.setIfInBounds_toArray, List.set_cons_zero, List.set_cons_succ, i64_w, i32_w]
        rfl
      refine pure_ (i := 14) (N := some 31) (v := ?_) (a' := ?_) #[true, true, true, true, true, true, true, true, true, true, true, true, true, true, true, false, false, false, false, false, false, false, false, false, false, false, false, false, false, false, false, false, false, false, false, false, false, false, false, false, false, false, false, false, false, false, false, false, false, false, false, false, false, false, false, false, false, false, false, false, false, false, false, false] rfl rfl (any_of HT_.out (by kernel_rfl)) (fun _ _ _ h => h) (Or.inl ⟨by rfl, ?_⟩) ?_ ?_
      rotate_left
      · intro w'
        go_simp
        with_reducible rfl
      rotate_left
      · simp only [Act.put, List.setIfInBounds_toArray, List.set_cons_zero, List.set_cons_succ, i64_w, i32_w]
        rfl
      refine pure_ (i := 15) (N := some 32) (v := ?_) (a' := ?_) #[true, true, true, true, true, true, true, true, true, true, true, true, true, true, true, true, false, false, false, false, false, false, false, false, false, false, false, false, false, false, false, false, false, false, false, false, false, false, false, false, false, false, false, false, false, false, false, false, false, false, false, false, false, false, false, false, false, false, false, false, false, false, false, false] rfl rfl (any_of HT_.out (by kernel_rfl)) (fun _ _ _ h => h) (Or.inl ⟨by rfl, ?_⟩) ?_ ?_
      rotate_left
      · intro w'
        go_simp
        with_reducible rfl
      rotate_left
      · simp only [Act.put, List.setIfInBounds_toArray, List.set_cons_zero, List.set_cons_succ, i64_w, i32_w]
        rfl
      refine take_ (i := 16) (N := some 33) (v := ?_) (a' := ?_) #[true, true, true, true, true, true, true, true, true, true, true, true, true, true, true, true, true, false, false, false, false, false, false, false, false, false, false, false, false, false, false, false, false, false, false, false, false, false, false, false, false, false, false, false, false, false, false, false, false, false, false, false, false, false, false, false, false, false, false, false, false, false, false, false] rfl rfl (take_ofW HT_.out HW_.out (by kernel_rfl)) (fun _ _ _ h => h) (Or.inl ⟨by rfl, ?_⟩) hHeld ?_ ?_
      rotate_left
      · rintro w' ⟨s0, s1, s2, s3, s4, s5, s6, s7, s8, s9⟩
        go_simp
        with_reducible rfl
      rotate_left
      · simp only [Act.put, List.setIfInBounds_toArray, List.set_cons_zero, List.set_cons_succ, i64_w, i32_w]
        rfl
      refine pure_ (i := 17) (N := some 34) (v := ?_) (a' := ?_) #[true, true, true, true, true, true, true, true, true, true, true, true, true, true, true, true, true, true, false, false, false, false, false, false, false, false, false, false, false, false, false, false, false, false, false, false, false, false, false, false, false, false, false, false, false, false, false, false, false, false, false, false, false, false, false, false, false, false, false, false, false, false, false, false] rfl rfl (any_of HT_.out (by kernel_rfl)) (fun _ _ _ h => h) (Or.inl ⟨by rfl, ?_⟩) ?_ ?_
      rotate_left
      · intro w'
        go_simp
        with_reducible rfl
      rotate_left
      · simp only [Act.put, List.setIfInBounds_toArray, List.set_cons_zero, List.set_cons_succ, i64_w, i32_w]
        rfl
      refine pure_ (i := 18) (N := some 35) (v := ?_) (a' := ?_) #[true, true, true, true, true, true, true, true, true, true, true, true, true, true, true, true, true, true, true, false, false, false, false, false, false, false, false, false, false, false, false, false, false, false, false, false, false, false, false, false, false, false, false, false, false, false, false, false, false, false, false, false, false, false, false, false, false, false, false, false, false, false, false, false] rfl rfl (any_of HT_.out (by kernel_rfl)) (fun _ _ _ h => h) (Or.inl ⟨by rfl, ?_⟩) ?_ ?_
      rotate_left
      · intro w'
        go_simp
        with_reducible rfl
      rotate_left
      · simp only [Act.put, List.setIfInBounds_toArray, List.set_cons_zero, List.set_cons_succ, i64_w, i32_w]
        rfl
      refine pure_ (i := 19) (N := some 36) (v := ?_) (a' := ?_) #[true, true, true, true, true, true, true, true, true, true, true, true, true, true, true, true, true, true, true, true, false, false, false, false, false, false, false, false, false, false, false, false, false, false, false, false, false, false, false, false, false, false, false, false, false, false, false, false, false, false, false, false, false, false, false, false, false, false, false, false, false, false, false, false] rfl rfl (any_of HT_.out (by kernel_rfl)) (fun _ _ _ h => h) (Or.inl ⟨by rfl, ?_⟩) ?_ ?_
      rotate_left
      · intro w'
        go_simp
        with_reducible rfl
      rotate_left
      · simp only [Act.put, List.setIfInBounds_toArray, List.set_cons_zero, List.set_cons_succ, i64_w, i32_w]
        rfl
      refine pure_ (i := 20) (N := some 37) (v := ?_) (a' := ?_) #[true, true, true, true, true, true, true, true, true, true, true, true, true, true, true, true, true, true, true, true, true, false, false, false, false, false, false, false, false, false, false, false, false, false, false, false, false, false, false, false, false, false, false, false, false, false, false, false, false, false, false, false, false, false, false, false, false, false, false, false, false, false, false, false] rfl rfl (any_of HT_.out (by kernel_rfl)) (fun _ _ _ h => h) (Or.inl ⟨by rfl, ?_⟩) ?_ ?_
      rotate_left
      · intro w'
        go_simp
        with_reducible rfl
      rotate_left
      · simp only [Act.put, List.setIfInBounds_toArray, List.set_cons_zero, List.set_cons_succ, i64_w, i32_w]
        rfl
      refine take_ (i := 21) (N := some 38) (v := ?_) (a' := ?_) #[true, true, true, true, true, true, true, true, true, true, true, true, true, true, true, true, true, true, true, true, true, true, false, false, false, false, false, false, false, false, false, false, false, false, false, false, false, false, false, false, false, false, false, false, false, false, false, false, false, false, false, false, false, false, false, false, false, false, false, false, false, false, false, false] rfl rfl (take_ofW HT_.out HW_.out (by kernel_rfl)) (fun _ _ _ h => h) (Or.inl ⟨by rfl, ?_⟩) hHeld ?_ ?_
      rotate_left
      · rintro w' ⟨s0, s1, s2, s3, s4, s5, s6, s7, s8, s9⟩
        go_simp
        with_reducible rfl
      rotate_left
      · simp only [Act.put, List.setIfInBounds_toArray, List.set_cons_zero, List.set_cons_succ, i64_w, i32_w]
        rfl
      refine pure_ (i := 22) (N := some 39) (v := ?_) (a' := ?_) #[true, true, true, true, true, true, true, true, true, true, true, true, true, true, true, true, true, true, true, true, true, true, true, false, false, false, false, false, false, false, false, false, false, false, false, false, false, false, false, false, false, false, false, false, false, false, false, false, false, false, false, false, false, false, false, false, false, false, false, false, false, false, false, false] rfl rfl (any_of HT_.out (by kernel_rfl)) (fun _ _ _ h => h) (Or.inl ⟨by rfl, ?_⟩) ?_ ?_
      rotate_left
      · intro w'
        go_simp
        with_reducible rfl
      rotate_left
      · simp only [Act.put, List.setIfInBounds_toArray, List.set_cons_zero, List.set_cons_succ, i64_w, i32_w]
        rfl
      refine pure_ (i := 23) (N := some 40) (v := ?_) (a' := ?_) #[true, true, true, true, true, true, true, true, true, true, true, true, true, true, true, true, true, true, true, true, true, true, true, true, false, false, false, false, false, false, false, false, false, false, false, false, false, false, false, false, false, false, false, false, false, false, false, false, false, false, false, false, false, false, false, false, false, false, false, false, false, false, false, false] rfl rfl (any_of HT_.out (by kernel_rfl)) (fun _ _ _ h => h) (Or.inl ⟨by rfl, ?_⟩) ?_ ?_
      rotate_left
      · intro w'
        go_simp
        with_reducible rfl
      rotate_left
      · simp only [Act.put, List.setIfInBounds_toArray, List.set_cons_zero, List.set_cons_succ, i64_w, i32_w]
        rfl
      refine pure_ (i := 24) (N := some 41) (v := ?_) (a' := ?_) #[true, true, true, true, true, true, true, true, true, true, true, true, true, true, true, true, true, true, true, true, true, true, true, true, true, false, false, false, false, false, false, false, false, false, false, false, false, false, false, false, false, false, false, false, false, false, false, false, false, false, false, false, false, false, false, false, false, false, false, false, false, false, false, false] rfl rfl (any_of HT_.out (by kernel_rfl)) (fun _ _ _ h => h) (Or.inl ⟨by rfl, ?_⟩) ?_ ?_
      rotate_left
      · intro w'
        go_simp
        with_reducible rfl
      rotate_left
      · simp only [Act.put, List.setIfInBounds_toArray, List.set_cons_zero, List.set_cons_succ, i64_w, i32_w]
        rfl
      refine pure_ (i := 25) (N := some 42) (v := ?_) (a' := ?_) #[true, true, true, true, true, true, true, true, true, true, true, true, true, true, true, true, true, true, true, true, true, true, true, true, true, true, false, false, false, false, false, false, false, false, false, false, false, false, false, false, false, false, false, false, false, false, false, false, false, false, false, false, false, false, false, false, false, false, false, false, false, false, false, false] rfl rfl (any_of HT_.out (by kernel_rfl)) (fun _ _ _ h => h) (Or.inl ⟨by rfl, ?_⟩) ?_ ?_
      rotate_left
      · intro w'
        go_simp
        with_reducible rfl
      rotate_left
      · simp only [Act.put, List.setIfInBounds_toArray, List.set_cons_zero, List.set_cons_succ, i64_w, i32_w]
        rfl
      refine pure_ (i := 26) (N := some 43) (v := ?_) (a' := ?_) #[true, true, true, true, true, true, true, true, true, true, true, true, true, true, true, true, true, true, true, true, true, true, true, true, true, true, true, false, false, false, false, false, false, false, false, false, false, false, false, false, false, false, false, false, false, false, false, false, false, false, false, false, false, false, false, false, false, false, false, false, false, false, false, false] rfl rfl (any_of HT_.out (by kernel_rfl)) (fun _ _ _ h => h) (Or.inl ⟨by rfl, ?_⟩) ?_ ?_
      rotate_left
      · intro w'
        go_simp
        with_reducible rfl
      rotate_left
      · simp only [Act.put, List.setIfInBounds_toArray, List.set_cons_zero, List.set_cons_succ, i64_w, i32_w]
        rfl
      refine pure_ (i := 27) (N := some 44) (v := ?_) (a' := ?_) #[true, true, true, true, true, true, true, true, true, true, true, true, true, true, true, true, true, true, true, true, true, true, true, true, true, true, true, true, false, false, false, false, false, false, false, false, false, false, false, false, false, false, false, false, false, false, false, false, false, false, false, false, false, false, false, false, false, false, false, false, false, false, false, false] rfl rfl (any_of HT_.out (by kernel_rfl)) (fun _ _ _ h => h) (Or.inl ⟨by rfl, ?_⟩) ?_ ?_
      rotate_left
      · intro w'
        go_simp
        with_reducible rfl
      rotate_left
      · simp only [Act.put, List.setIfInBounds_toArray, List.set_cons_zero, List.set_cons_succ, i64_w, i32_w]
        rfl
      refine pure_ (i := 28) (N := some 45) (v := ?_) (a' := ?_) #[true, true, true, true, true, true, true, true, true, true, true, true, true, true, true, true, true, true, true, true, true, true, true, true, true, true, true, true, true, false, false, false, false, false, false, false, false, false, false, false, false, false, false, false, false, false, false, false, false, false, false, false, false, false, false, false, false, false, false, false, false, false, false, false] rfl rfl (any_of HT_.out (by kernel_rfl)) (fun _ _ _ h => h) (Or.inl ⟨by rfl, ?_⟩) ?_ ?_
      rotate_left
      · intro w'
        go_simp
        with_reducible rfl
      rotate_left
      · simp only [Act.put, List.setIfInBounds_toArray, List.set_cons_zero, List.set_cons_succ, i64_w, i32_w]
        rfl
      refine take_ (i := 29) (N := some 46) (v := ?_) (a' := ?_) #[true, true, true, true, true, true, true, true, true, true, true, true, true, true, true, true, true, true, true, true, true, true, true, true, true, true, true, true, true, true, false, false, false, false, false, false, false, false, false, false, false, false, false, false, false, false, false, false, false, false, false, false, false, false, false, false, false, false, false, false, false, false, false, false] rfl rfl (take_ofW HT_.out HW_.out (by kernel_rfl)) (fun _ _ _ h => h) (Or.inl ⟨by rfl, ?_⟩) hHeld ?_ ?_
      rotate_left
      · rintro w' ⟨s0, s1, s2, s3, s4, s5, s6, s7, s8, s9⟩
        go_simp
        with_reducible rfl
      rotate_left
      · simp only [Act.put, List.setIfInBounds_toArray, List.set_cons_zero, List.set_cons_succ, i64_w, i32_w]
        rfl
      refine pure_ (i := 30) (N := some 47) (v := ?_) (a' := ?_) #[true, true, true, true, true, true, true, true, true, true, true, true, true, true, true, true, true, true, true, true, true, true, true, true, true, true, true, true, true, true, true, false, false, false, false, false, false, false, false, false, false, false, false, false, false, false, false, false, false, false, false, false, false, false, false, false, false, false, false, false, false, false, false, false] rfl rfl (any_of HT_.out (by kernel_rfl)) (fun _ _ _ h => h) (Or.inl ⟨by rfl, ?_⟩) ?_ ?_
      rotate_left
      · intro w'
        go_simp
        with_reducible rfl
      rotate_left
      · simp only [Act.put, List.setIfInBounds_toArray, List.set_cons_zero, List.set_cons_succ, i64_w, i32_w]
        rfl
      refine pure_ (i := 31) (N := some 48) (v := ?_) (a' := ?_) #[true, true, true, true, true, true, true, true, true, true, true, true, true, true, true, true, true, true, true, true, true, true, true, true, true, true, true, true, true, true, true, true, false, false, false, false, false, false, false, false, false, false, false, false, false, false, false, false, false, false, false, false, false, false, false, false, false, false, false, false, false, false, false, false] rfl rfl (any_of HT_.out (by kernel_rfl)) (fun _ _ _ h => h) (Or.inl ⟨by rfl, ?_⟩) ?_ ?_
      rotate_left
      · intro w'
        go_simp
        with_reducible rfl
      rotate_left
      · simp only [Act.put, List.setIfInBounds_toArray, List.set_cons_zero, List.set_cons_succ, i64_w, i32_w]
        rfl
      refine pure_ (i := 32) (N := some 49) (v := ?_) (a' := ?_) #[true, true, true, true, true, true, true, true, true, true, true, true, true, true, true, true, true, true, true, true, true, true, true, true, true, true, true, true, true, true, true, true, true, false, false, false, false, false, false, false, false, false, false, false, false, false, false, false, false, false, false, false, false, false, false, false, false, false, false, false, false, false, false, false] rfl rfl (any_of HT_.out (by kernel_rfl)) (fun _ _ _ h => h) (Or.inl ⟨by rfl, ?_⟩) ?_ ?_
      rotate_left
      · intro w'
        go_simp
        with_reducible rfl
      rotate_left
      · simp only [Act.put, List.setIfInBounds_toArray, List.set_cons_zero, List.set_cons_succ, i64_w, i32_w]
        rfl
      refine pure_ (i := 33) (N := some 50) (v := ?_) (a' := ?_) #[true, true, true, true, true, true, true, true, true, true, true, true, true, true, true, true, true, true, true, true, true, true, true, true, true, true, true, true, true, true, true, true, true, true, false, false, false, false, false, false, false, false, false, false, false, false, false, false, false, false, false, false, false, false, false, false, false, false, false, false, false, false, false, false] rfl rfl (any_of HT_.out (by kernel_rfl)) (fun _ _ _ h => h) (Or.inl ⟨by rfl, ?_⟩) ?_ ?_
      rotate_left
      · intro w'
        go_simp
        with_reducible rfl
      rotate_left
      · simp only [Act.put, List.setIfInBounds_toArray, List.set_cons_zero, List.set_cons_succ, i64_w, i32_w]
        rfl
      refine take_ (i := 34) (N := some 51) (v := ?_) (a' := ?_) #[true, true, true, true, true, true, true, true, true, true, true, true, true, true, true, true, true, true, true, true, true, true, true, true, true, true, true, true, true, true, true, true, true, true, true, false, false, false, false, false, false, false, false, false, false, false, false, false, false, false, false, false, false, false, false, false, false, false, false, false, false, false, false, false] rfl rfl (take_ofW HT_.out HW_.out (by kernel_rfl)) (fun _ _ _ h => h) (Or.inl ⟨by rfl, ?_⟩) hHeld ?_ ?_
      rotate_left
      · rintro w' ⟨s0, s1, s2, s3, s4, s5, s6, s7, s8, s9⟩
        go_simp
        with_reducible rfl
      rotate_left
      · simp only [Act.put, List.setIfInBounds_toArray, List.set_cons_zero, List.set_cons_succ, i64_w, i32_w]
        rfl
      refine pure_ (i := 35) (N := some 52) (v := ?_) (a' := ?_) #[true, true, true, true, true, true, true, true, true, true, true, true, true, true, true, true, true, true, true, true, true, true, true, true, true, true, true, true, true, true, true, true, true, true, true, true, false, false, false, false, false, false, false, false, false, false, false, false, false, false, false, false, false, false, false, false, false, false, false, false, false, false, false, false] rfl rfl (any_of HT_.out (by kernel_rfl)) (fun _ _ _ h => h) (Or.inl ⟨by rfl, ?_⟩) ?_ ?_
      rotate_left
      · intro w'
        go_simp
        with_reducible rfl
      rotate_left
      · simp only [Act.put, List.setIfInBounds_toArray, List.set_cons_zero, List.set_cons_succ, i64_w, i32_w]
        rfl
      refine pure_ (i := 36) (N := some 53) (v := ?_) (a' := ?_) #[true, true, true, true, true, true, true, true, true, true, true, true, true, true, true, true, true, true, true, true, true, true, true, true, true, true, true, true, true, true, true, true, true, true, true, true, true, false, false, false, false, false, false, false, false, false, false, false, false, false, false, false, false, false, false, false, false, false, false, false, false, false, false, false] rfl rfl (any_of HT_.out (by kernel_rfl)) (fun _ _ _ h => h) (Or.inl ⟨by rfl, ?_⟩) ?_ ?_
      rotate_left
      · intro w'
        go_simp
        with_reducible rfl
      rotate_left
      · simp only [Act.put, List.setIfInBounds_toArray, List.set_cons_zero, List.set_cons_succ, i64_w, i32_w]
        rfl
      refine pure_ (i := 37) (N := some 54) (v := ?_) (a' := ?_) #[true, true, true, true, true, true, true, true, true, true, true, true, true, true, true, true, true, true, true, true, true, true, true, true, true, true, true, true, true, true, true, true, true, true, true, true, true, true, false, false, false, false, false, false, false, false, false, false, false, false, false, false, false, false, false, false, false, false, false, false, false, false, false, false] rfl rfl (any_of HT_.out (by kernel_rfl)) (fun _ _ _ h => h) (Or.inl ⟨by rfl, ?_⟩) ?_ ?_
      rotate_left
      · intro w'
        go_simp
        with_reducible rfl
      rotate_left
      · simp only [Act.put, List.setIfInBounds_toArray, List.set_cons_zero, List.set_cons_succ, i64_w, i32_w]
        rfl
      refine pure_ (i := 38) (N := some 55) (v := ?_) (a' := ?_) #[true, true, true, true, true, true, true, true, true, true, true, true, true, true, true, true, true, true, true, true, true, true, true, true, true, true, true, true, true, true, true, true, true, true, true, true, true, true, true, false, false, false, false, false, false, false, false, false, false, false, false, false, false, false, false, false, false, false, false, false, false, false, false, false] rfl rfl (any_of HT_.out (by kernel_rfl)) (fun _ _ _ h => h) (Or.inl ⟨by rfl, ?_⟩) ?_ ?_
      rotate_left
      · intro w'
        go_simp
        with_reducible rfl
      rotate_left
      · simp only [Act.put, List.setIfInBounds_toArray, List.set_cons_zero, List.set_cons_succ, i64_w, i32_w]
        rfl
      refine pure_ (i := 39) (N := some 56) (v := ?_) (a' := ?_) #[true, true, true, true, true, true, true, true, true, true, true, true, true, true, true, true, true, true, true, true, true, true, true, true, true, true, true, true, true, true, true, true, true, true, true, true, true, true, true, true, false, false, false, false, false, false, false, false, false, false, false, false, false, false, false, false, false, false, false, false, false, false, false, false] rfl rfl (any_of HT_.out (by kernel_rfl)) (fun _ _ _ h => h) (Or.inl ⟨by rfl, ?_⟩) ?_ ?_
      rotate_left
      · intro w'
        go_simp
        with_reducible rfl
      rotate_left
      · simp only [Act.put, List.setIfInBounds_toArray, List.set_cons_zero, List.set_cons_succ, i64_w, i32_w]
        rfl
      refine pure_ (i := 40) (N := some 57) (v := ?_) (a' := ?_) #[true, true, true, true, true, true, true, true, true, true, true, true, true, true, true, true, true, true, true, true, true, true, true, true, true, true, true, true, true, true, true, true, true, true, true, true, true, true, true, true, true, false, false, false, false, false, false, false, false, false, false, false, false, false, false, false, false, false, false, false, false, false, false, false] rfl rfl (any_of HT_.out (by kernel_rfl)) (fun _ _ _ h => h) (Or.inl ⟨by rfl, ?_⟩) ?_ ?_
      rotate_left
      · intro w'
        go_simp
        with_reducible rfl
      rotate_left
      · simp only [Act.put, List.setIfInBounds_toArray, List.set_cons_zero, List.set_cons_succ, i64_w, i32_w]
        rfl
      refine pure_ (i := 41) (N := some 58) (v := ?_) (a' := ?_) #[true, true, true, true, true, true, true, true, true, true, true, true, true, true, true, true, true, true, true, true, true, true, true, true, true, true, true, true, true, true, true, true, true, true, true, true, true, true, true, true, true, true, false, false, false, false, false, false, false, false, false, false, false, false, false, false, false, false, false, false, false, false, false, false] rfl rfl (any_of HT_.out (by kernel_rfl)) (fun _ _ _ h => h) (Or.inl ⟨by rfl, ?_⟩) ?_ ?_
      rotate_left
      · intro w'
        go_simp
        with_reducible rfl
      rotate_left
      · simp only [Act.put, List.setIfInBounds_toArray, List.set_cons_zero, List.set_cons_succ, i64_w, i32_w]
        rfl
      refine take_ (i := 42) (N := some 59) (v := ?_) (a' := ?_) #[true, true, true, true, true, true, true, true, true, true, true, true, true, true, true, true, true, true, true, true, true, true, true, true, true, true, true, true, true, true, true, true, true, true, true, true, true, true, true, true, true, true, true, false, false, false, false, false, false, false, false, false, false, false, false, false, false, false, false, false, false, false, false, false] rfl rfl (take_ofW HT_.out HW_.out (by kernel_rfl)) (fun _ _ _ h => h) (Or.inl ⟨by rfl, ?_⟩) hHeld ?_ ?_
      rotate_left
      · rintro w' ⟨s0, s1, s2, s3, s4, s5, s6, s7, s8, s9⟩
        go_simp
        with_reducible rfl
      rotate_left
      · simp only [Act.put, List.setIfInBounds_toArray, List.set_cons_zero, List.set_cons_succ, i64_w, i32_w]
        rfl
      refine pure_ (i := 43) (N := some 60) (v := ?_) (a' := ?_) #[true, true, true, true, true, true, true, true, true, true, true, true, true, true, true, true, true, true, true, true, true, true, true, true, true, true, true, true, true, true, true, true, true, true, true, true, true, true, true, true, true, true, true, true, false, false, false, false, false, false, false, false, false, false, false, false, false, false, false, false, false, false, false, false] rfl rfl (any_of HT_.out (by kernel_rfl)) (fun _ _ _ h => h) (Or.inl ⟨by rfl, ?_⟩) ?_ ?_
      rotate_left
      · intro w'
        go_simp
        with_reducible rfl
      rotate_left
      · simp only [Act.put, List.setIfInBounds_toArray, List.set_cons_zero, List.set_cons_succ, i64_w, i32_w]
        rfl
      refine pure_ (i := 44) (N := some 61) (v := ?_) (a' := ?_) #[true, true, true, true, true, true, true, true, true, true, true, true, true, true, true, true, true, true, true, true, true, true, true, true, true, true, true, true, true, true, true, true, true, true, true, true, true, true, true, true, true, true, true, true, true, false, false, false, false, false, false, false, false, false, false, false, false, false, false, false, false, false, false, false] rfl rfl (any_of HT_.out (by kernel_rfl)) (fun _ _ _ h => h) (Or.inl ⟨by rfl, ?_⟩) ?_ ?_
      rotate_left
      · intro w'
        go_simp
        with_reducible rfl
      rotate_left
      · simp only [Act.put, List.setIfInBounds_toArray, List.set_cons_zero, List.set_cons_succ, i64_w, i32_w]
        rfl
      refine pure_ (i := 45) (N := some 62) (v := ?_) (a' := ?_) #[true, true, true, true, true, true, true, true, true, true, true, true, true, true, true, true, true, true, true, true, true, true, true, true, true, true, true, true, true, true, true, true, true, true, true, true, true, true, true, true, true, true, true, true, true, true, false, false, false, false, false, false, false, false, false, false, false, false, false, false, false, false, false, false] rfl rfl (any_of HT_.out (by kernel_rfl)) (fun _ _ _ h => h) (Or.inl ⟨by rfl, ?_⟩) ?_ ?_
      rotate_left
      · intro w'
        go_simp
        with_reducible rfl
      rotate_left
      · simp only [Act.put, List.setIfInBounds_toArray, List.set_cons_zero, List.set_cons_succ, i64_w, i32_w]
        rfl
      refine pure_ (i := 46) (N := some 63) (v := ?_) (a' := ?_) #[true, true, true, true, true, true, true, true, true, true, true, true, true, true, true, true, true, true, true, true, true, true, true, true, true, true, true, true, true, true, true, true, true, true, true, true, true, true, true, true, true, true, true, true, true, true, true, false, false, false, false, false, false, false, false, false, false, false, false, false, false, false, false, false] rfl rfl (any_of HT_.out (by kernel_rfl)) (fun _ _ _ h => h) (Or.inl ⟨by rfl, ?_⟩) ?_ ?_
      rotate_left
      · intro w'
        go_simp
        with_reducible rfl
      rotate_left
      · simp only [Act.put, List.setIfInBounds_toArray, List.set_cons_zero, List.set_cons_succ, i64_w, i32_w]
        rfl
      refine take_ (i := 47) (N := some 64) (v := ?_) (a' := ?_) #[true, true, true, true, true, true, true, true, true, true, true, true, true, true, true, true, true, true, true, true, true, true, true, true, true, true, true, true, true, true, true, true, true, true, true, true, true, true, true, true, true, true, true, true, true, true, true, true, false, false, false, false, false, false, false, false, false, false, false, false, false, false, false, false] rfl rfl (take_ofW HT_.out HW_.out (by kernel_rfl)) (fun _ _ _ h => h) (Or.inl ⟨by rfl, ?_⟩) hHeld ?_ ?_
      rotate_left
      · rintro w' ⟨s0, s1, s2, s3, s4, s5, s6, s7, s8, s9⟩
        go_simp
        with_reducible rfl
      rotate_left
      · simp only [Act.put, List.setIfInBounds_toArray, List.set_cons_zero, List.set_cons_succ, i64_w, i32_w]
        rfl
      refine pure_ (i := 48) (N := some 65) (v := ?_) (a' := ?_) #[true, true, true, true, true, true, true, true, true, true, true, true, true, true, true, true, true, true, true, true, true, true, true, true, true, true, true, true, true, true, true, true, true, true, true, true, true, true, true, true, true, true, true, true, true, true, true, true, true, false, false, false, false, false, false, false, false, false, false, false, false, false, false, false] rfl rfl (any_of HT_.out (by kernel_rfl)) (fun _ _ _ h => h) (Or.inl ⟨by rfl, ?_⟩) ?_ ?_
      rotate_left
      · intro w'
        go_simp
        with_reducible rfl
      rotate_left
      · simp only [Act.put, List.setIfInBounds_toArray, List.set_cons_zero, List.set_cons_succ, i64_w, i32_w]
        rfl
      refine pure_ (i := 49) (N := some 66) (v := ?_) (a' := ?_) #[true, true, true, true, true, true, true, true, true, true, true, true, true, true, true, true, true, true, true, true, true, true, true, true, true, true, true, true, true, true, true, true, true, true, true, true, true, true, true, true, true, true, true, true, true, true, true, true, true, true, false, false, false, false, false, false, false, false, false, false, false, false, false, false] rfl rfl (any_of HT_.out (by kernel_rfl)) (fun _ _ _ h => h) (Or.inl ⟨by rfl, ?_⟩) ?_ ?_
      rotate_left
      · intro w'
        go_simp
        with_reducible rfl
      rotate_left
      · simp only [Act.put, List.setIfInBounds_toArray, List.set_cons_zero, List.set_cons_succ, i64_w, i32_w]
        rfl
      refine pure_ (i := 50) (N := some 67) (v := ?_) (a' := ?_) #[true, true, true, true, true, true, true, true, true, true, true, true, true, true, true, true, true, true, true, true, true, true, true, true, true, true, true, true, true, true, true, true, true, true, true, true, true, true, true, true, true, true, true, true, true, true, true, true, true, true, true, false, false, false, false, false, false, false, false, false, false, false, false, false] rfl rfl (any_of HT_.out (by kernel_rfl)) (fun _ _ _ h => h) (Or.inl ⟨by rfl, ?_⟩) ?_ ?_
      rotate_left
      · intro w'
        go_simp
        with_reducible rfl
      rotate_left
      · simp only [Act.put, List.setIfInBounds_toArray, List.set_cons_zero, List.set_cons_succ, i64_w, i32_w]
        rfl
      refine pure_ (i := 51) (N := some 68) (v := ?_) (a' := ?_) #[true, true, true, true, true, true, true, true, true, true, true, true, true, true, true, true, true, true, true, true, true, true, true, true, true, true, true, true, true, true, true, true, true, true, true, true, true, true, true, true, true, true, true, true, true, true, true, true, true, true, true, true, false, false, false, false, false, false, false, false, false, false, false, false] rfl rfl (any_of HT_.out (by kernel_rfl)) (fun _ _ _ h => h) (Or.inl ⟨by rfl, ?_⟩) ?_ ?_
      rotate_left
      · intro w'
        go_simp
        with_reducible rfl
      rotate_left
      · simp only [Act.put, List.setIfInBounds_toArray, List.set_cons_zero, List.set_cons_succ, i64_w, i32_w]
        rfl
      refine pure_ (i := 52) (N := some 69) (v := ?_) (a' := ?_) #[true, true, true, true, true, true, true, true, true, true, true, true, true, true, true, true, true, true, true, true, true, true, true, true, true, true, true, true, true, true, true, true, true, true, true, true, true, true, true, true, true, true, true, true, true, true, true, true, true, true, true, true, true, false, false, false, false, false, false, false, false, false, false, false] rfl rfl (any_of HT_.out (by kernel_rfl)) (fun _ _ _ h => h) (Or.inl ⟨by rfl, ?_⟩) ?_ ?_
      rotate_left
      · intro w'
        go_simp
        with_reducible rfl
      rotate_left
      · simp only [Act.put, List.setIfInBounds_toArray, List.set_cons_zero, List.set_cons_succ, i64_w, i32_w]
        rfl
      refine pure_ (i := 53) (N := some 70) (v := ?_) (a' := ?_) #[true, true, true, true, true, true, true, true, true, true, true, true, true, true, true, true, true, true, true, true, true, true, true, true, true, true, true, true, true, true, true, true, true, true, true, true, true, true, true, true, true, true, true, true, true, true, true, true, true, true, true, true, true, true, false, false, false, false, false, false, false, false, false, false] rfl rfl (any_of HT_.out (by kernel_rfl)) (fun _ _ _ h => h) (Or.inl ⟨by rfl, ?_⟩) ?_ ?_
      rotate_left
      · intro w'
        go_simp
        with_reducible rfl
      rotate_left
      · simp only [Act.put, List.setIfInBounds_toArray, List.set_cons_zero, List.set_cons_succ, i64_w, i32_w]
        rfl
      refine pure_ (i := 54) (N := some 71) (v := ?_) (a' := ?_) #[true, true, true, true, true, true, true, true, true, true, true, true, true, true, true, true, true, true, true, true, true, true, true, true, true, true, true, true, true, true, true, true, true, true, true, true, true, true, true, true, true, true, true, true, true, true, true, true, true, true, true, true, true, true, true, false, false, false, false, false, false, false, false, false] rfl rfl (any_of HT_.out (by kernel_rfl)) (fun _ _ _ h => h) (Or.inl ⟨by rfl, ?_⟩) ?_ ?_
      rotate_left
      · intro w'
        go_simp
        with_reducible rfl
      rotate_left
      · simp only [Act.put, List.setIfInBounds_toArray, List.set_cons_zero, List.set_cons_succ, i64_w, i32_w]
        rfl
      refine take_ (i := 55) (N := some 72) (v := ?_) (a' := ?_) #[true, true, true, true, true, true, true, true, true, true, true, true, true, true, true, true, true, true, true, true, true, true, true, true, true, true, true, true, true, true, true, true, true, true, true, true, true, true, true, true, true, true, true, true, true, true, true, true, true, true, true, true, true, true, true, true, false, false, false, false, false, false, false, false] rfl rfl (take_ofW HT_.out HW_.out (by kernel_rfl)) (fun _ _ _ h => h) (Or.inl ⟨by rfl, ?_⟩) hHeld ?_ ?_
      rotate_left
      · rintro w' ⟨s0, s1, s2, s3, s4, s5, s6, s7, s8, s9⟩
        go_simp
        with_reducible rfl
      rotate_left
      · simp only [Act.put, List.setIfInBounds_toArray, List.set_cons_zero, List.set_cons_succ, i64_w, i32_w]
        rfl
      refine pure_ (i := 56) (N := some 73) (v := ?_) (a' := ?_) #[true, true, true, true, true, true, true, true, true, true, true, true, true, true, true, true, true, true, true, true, true, true, true, true, true, true, true, true, true, true, true, true, true, true, true, true, true, true, true, true, true, true, true, true, true, true, true, true, true, true, true, true, true, true, true, true, true, false, false, false, false, false, false, false] rfl rfl (any_of HT_.out (by kernel_rfl)) (fun _ _ _ h => h) (Or.inl ⟨by rfl, ?_⟩) ?_ ?_
      rotate_left
      · intro w'
        go_simp
        with_reducible rfl
      rotate_left
      · simp only [Act.put, List.setIfInBounds_toArray, List.set_cons_zero, List.set_cons_succ, i64_w, i32_w]
        rfl
      refine pure_ (i := 57) (N := some 74) (v := ?_) (a' := ?_) #[true, true, true, true, true, true, true, true, true, true, true, true, true, true, true, true, true, true, true, true, true, true, true, true, true, true, true, true, true, true, true, true, true, true, true, true, true, true, true, true, true, true, true, true, true, true, true, true, true, true, true, true, true, true, true, true, true, true, false, false, false, false, false, false] rfl rfl (any_of HT_.out (by kernel_rfl)) (fun _ _ _ h => h) (Or.inl ⟨by rfl, ?_⟩) ?_ ?_
      rotate_left
      · intro w'
        go_simp
        with_reducible rfl
      rotate_left
      · simp only [Act.put, List.setIfInBounds_toArray, List.set_cons_zero, List.set_cons_succ, i64_w, i32_w]
        rfl
      refine pure_ (i := 58) (N := some 75) (v := ?_) (a' := ?_) #[true, true, true, true, true, true, true, true, true, true, true, true, true, true, true, true, true, true, true, true, true, true, true, true, true, true, true, true, true, true, true, true, true, true, true, true, true, true, true, true, true, true, true, true, true, true, true, true, true, true, true, true, true, true, true, true, true, true, true, false, false, false, false, false] rfl rfl (any_of HT_.out (by kernel_rfl)) (fun _ _ _ h => h) (Or.inl ⟨by rfl, ?_⟩) ?_ ?_
      rotate_left
      · intro w'
        go_simp
        with_reducible rfl
      rotate_left
      · simp only [Act.put, List.setIfInBounds_toArray, List.set_cons_zero, List.set_cons_succ, i64_w, i32_w]
        rfl
      refine pure_ (i := 59) (N := some 76) (v := ?_) (a' := ?_) #[true, true, true, true, true, true, true, true, true, true, true, true, true, true, true, true, true, true, true, true, true, true, true, true, true, true, true, true, true, true, true, true, true, true, true, true, true, true, true, true, true, true, true, true, true, true, true, true, true, true, true, true, true, true, true, true, true, true, true, true, false, false, false, false] rfl rfl (any_of HT_.out (by kernel_rfl)) (fun _ _ _ h => h) (Or.inl ⟨by rfl, ?_⟩) ?_ ?_
      rotate_left
      · intro w'
        go_simp
        with_reducible rfl
      rotate_left
      · simp only [Act.put, List.setIfInBounds_toArray, List.set_cons_zero, List.set_cons_succ, i64_w, i32_w]
        rfl
      refine take_ (i := 60) (N := some 77) (v := ?_) (a' := ?_) #[true, true, true, true, true, true, true, true, true, true, true, true, true, true, true, true, true, true, true, true, true, true, true, true, true, true, true, true, true, true, true, true, true, true, true, true, true, true, true, true, true, true, true, true, true, true, true, true, true, true, true, true, true, true, true, true, true, true, true, true, true, false, false, false] rfl rfl (take_ofW HT_.out HW_.out (by kernel_rfl)) (fun _ _ _ h => h) (Or.inl ⟨by rfl, ?_⟩) hHeld ?_ ?_
      rotate_left
      · rintro w' ⟨s0, s1, s2, s3, s4, s5, s6, s7, s8, s9⟩
        go_simp
        with_reducible rfl
      rotate_left
      · simp only [Act.put, List.setIfInBounds_toArray, List.set_cons_zero, List.set_cons_succ, i64_w, i32_w]
        rfl
      refine one_ (i := 61) (N := some 78) #[true, true, true, true, true, true, true, true, true, true, true, true, true, true, true, true, true, true, true, true, true, true, true, true, true, true, true, true, true, true, true, true, true, true, true, true, true, true, true, true, true, true, true, true, true, true, true, true, true, true, true, true, true, true, true, true, true, true, true, true, true, true, false, false] rfl rfl (one_of HT_.out (by kernel_rfl)) (by decide) (fun K hK => ?_)
      refine goes_ Tryd.func47 (by kernel_rfl) rfl #[.slice A4 p.f4.length c4, .slice B4 p.f4.length d4] (by rfl) rfl rfl (by (try simp only [List.map_toArray, List.map_cons, List.map_nil]); first | done | rfl) ?_
      refine (squintlaw08_sameCode.calls KC A4 c4 p.f4 B4 d4 p.f4 true _ (Kd.C_below HI.out HB6.out) HL1.out (Kd.C_below KI.out HB6.out) HL2.out HK.out).mono ?_
      rintro e w7 ⟨rfl, hb⟩
      refine ⟨_, rfl, ?_⟩
      have HB7 := Aside0.mk (bel2 hb HB6.out)
      refine hK.out _ _ ⟨pw_cell_below hb hHeld.1, pw_cell_below hb hHeld.2.1, pw_cell_below hb hHeld.2.2.1, pw_cell_below hb hHeld.2.2.2.1, pw_cell_below hb hHeld.2.2.2.2.1, pw_cell_below hb hHeld.2.2.2.2.2.1, pw_cell_below hb hHeld.2.2.2.2.2.2.1, pw_cell_below hb hHeld.2.2.2.2.2.2.2.1, pw_cell_below hb hHeld.2.2.2.2.2.2.2.2.1, pw_cell_below hb hHeld.2.2.2.2.2.2.2.2.2⟩ (fun hHeld => ?_)
      clear hK K
      refine norm_ (a' := ?_) ?_ ?_
      rotate_left
      · show Act.put _ (some 78) _ = _
        simp only [Act.put, List.setIfInBounds_toArray, List.set_cons_zero, List.set_cons_succ, i64_w, i32_w]
        rfl
      refine pure_ (i := 62) (N := some 79) (v := ?_) (a' := ?_) #[true, true, true, true, true, true, true, true, true, true, true, true, true, true, true, true, true, true, true, true, true, true, true, true, true, true, true, true, true, true, true, true, true, true, true, true, true, true, true, true, true, true, true, true, true, true, true, true, true, true, true, true, true, true, true, true, true, true, true, true, true, true, true, false] rfl rfl (any_of HT_.out (by kernel_rfl)) (fun _ _ _ h => h) (Or.inl ⟨by rfl, ?_⟩) ?_ ?_
      rotate_left
      · intro w'
        go_simp
        with_reducible rfl
      rotate_left
      · simp only [Act.put, List.setIfInBounds_toArray, List.set_cons_zero, List.set_cons_succ, i64_w, i32_w]
        rfl
      refine pure_ (i := 63) (N := some 80) (v := ?_) (a' := ?_) #[true, true, true, true, true, true, true, true, true, true, true, true, true, true, true, true, true, true, true, true, true, true, true, true, true, true, true, true, true, true, true, true, true, true, true, true, true, true, true, true, true, true, true, true, true, true, true, true, true, true, true, true, true, true, true, true, true, true, true, true, true, true, true, true] rfl rfl (any_of HT_.out (by kernel_rfl)) (fun _ _ _ h => h) (Or.inl ⟨by rfl, ?_⟩) ?_ ?_
      rotate_left
      · intro w'
        go_simp
        with_reducible rfl
      rotate_left
      · simp only [Act.put, List.setIfInBounds_toArray, List.set_cons_zero, List.set_cons_succ, i64_w, i32_w]
        rfl
      refine done_ (done_of HT_.out (by kernel_rfl)) ?_
      clear hHeld
      go_wp2
      go_roundw
      case rel => exact ⟨k + 1, by go_num, by omega, HB7⟩
      case measure => simp [intOf]; omega
    · obtain rfl : k = ps.length := by omega
      go_wp2
      go_returns
      exact ⟨rfl, HB.out⟩
end Go.Proofs.YtfkfgjmhcfagkaaDoor.Given
end
section
namespace Go.Proofs.YtfkfgjmhcfagkaaDoor.Given
open Go.RowKit Go.Proofs.YtfkfgjmhcfagkaaDoorW.PrintWords Go.Proofs.YtfkfgjmhcfagkaaDoorW.PrintLast Go.Proofs.YtfkfgjmhcfagkaaDoorW.PrintMore Go.Proofs.YtfkfgjmhcfagkaaDoor.Print
set_option linter.unusedVariables false
set_option linter.unusedSimpArgs false
def st6T : Bool × List (List Nat × List Nat) := (true, [([], []), ([], []), ([0, 1], [0, 1]), ([2], [2]), ([3], [3]), ([], []), ([], []), ([5, 6], [5, 6]), ([7], [7]), ([8], [8]), ([4, 9], [4, 9]), ([10], [10]), ([11], [11]), ([11], [11]), ([12, 13, 11], [11, 12, 13]), ([14, 11], [11, 14]), ([15, 11], [11, 15]), ([11], [11]), ([11], [11]), ([17, 18, 11], [11, 17, 18]), ([19, 11], [11, 19]), ([20, 11], [11, 20]), ([16, 21, 11], [11, 16, 21]), ([11, 22], [11, 22]), ([23, 11], [23]), ([24], [24]), ([24], [24]), ([25, 26, 24], [24, 25, 26]), ([27, 24], [24, 27]), ([28, 24], [24, 28]), ([24], [24]), ([24], [24]), ([30, 31, 24], [24, 30, 31]), ([32, 24], [24, 32]), ([33, 24], [24, 33]), ([29, 34, 24, 24], [24, 29, 34]), ([35, 24], [24, 35]), ([24, 36], [24, 36])])
def st6B : List Nat := [0, 0, 3, 7, 15, 0, 0, 96, 224, 480, 1023, 2047, 4095, 4095, 16383, 32767, 65535, 4095, 4095, 397311, 921599, 1970175, 4194303, 8388607, 16777215, 33554431, 33554431, 134217727, 268435455, 536870911, 33554431, 33554431, 3254779903, 7549747199, 16139681791, 34359738367, 68719476735, 137438953471]
theorem st6tab : rtab .any (opsOf Tryd.f45 6) = st6T := by kernel_rfl
theorem st6bits : waitsOk st6T.2 st6B = true := by kernel_rfl
set_option maxRecDepth 100000 in
set_option maxHeartbeats 4000000 in
theorem same_types (A0 : Option Addr) (c0 : Nat) (A1 : Option Addr) (c1 : Nat) (ps : List S54) (w : World) (h0 : Kd.C k54 w A0 ps.length ps) (h1 : Kd.C k54 w A1 ps.length ps) (hb : ∀ p ∈ ps, p.f1.length ≤ 4611686018427387904) :
    Calls Tryd.prog 45 #[.slice A0 ps.length c0, .slice A1 ps.length c1] w fun e w' => e = .returned (.bool true) ∧ Below w.heap.size w w' := by
  have hm := h0.2.1
  have H0 := Aside0.mk h0
  have H1 := Aside0.mk h1
  have HX := Aside0.mk hb
  clear h0 h1 hb
  go_enter Tryd.func45, Tryd.ntmps45
  go_wp2
  go_loopw [5] (fun i wr => ∃ k : Nat, i = .int .i64 k ∧ k ≤ ps.length ∧ Aside0 (Below w.heap.size w wr)) (fun i _ => ps.length - (intOf i).toNat)
  case atStart => exact ⟨0, rfl, by omega, ⟨Below.refl _ _⟩⟩
  case round =>
    obtain ⟨k, rfl, hk, HB⟩ := hrel
    by_cases hlt : k < ps.length
    · obtain ⟨ad, A4, c4, e, x0, x1, x2, hl, hi⟩ := at_T54 H0.out (k : Int) (by omega) (by omega)
      cases e
      obtain ⟨bd, B4, d4, e, z0, z1, z2, kl, ki⟩ := at_T54 H1.out (k : Int) (by omega) (by omega)
      cases e
      have hrd : rd_T54 ps (k : Int) = ps[k] := by simp [rd_T54, hlt]
      rw [hrd] at x0 x1 x2 hl hi z0 z1 z2 kl ki
      rw [Int.toNat_natCast] at x0 x1 x2 z0 z1 z2
      replace x0 := pw_cell_below HB.out x0
      replace x1 := pw_cell_below HB.out x1
      replace x2 := pw_cell_below HB.out x2
      replace z0 := pw_cell_below HB.out z0
      replace z1 := pw_cell_below HB.out z1
      replace z2 := pw_cell_below HB.out z2
      have hb1 := HX.out ps[k] (List.getElem_mem hlt)
      obtain ⟨KC, hK⟩ : ∃ q, squintlaw08_sameInts.f q ps[k].f1 ps[k].f1 = some true := ⟨_, sames_self _ hb1 _ (Nat.lt_succ_self _)⟩
      generalize ps[k] = p at x0 x1 x2 hl hi z0 z1 z2 kl ki hK
      have HI := Aside0.mk hi
      have HK := Aside0.mk hK
      have KI := Aside0.mk ki
      have HL1 := Aside0.mk hl
      have HL2 := Aside0.mk kl
      clear hi ki hrd hK hb1 hl kl
      go_wp2_with (fail)
      refine start_ (n := 38) (S := fun w' => w'.cell? (ad.add (k * 3)) = some (.int .i64 p.f0) ∧ w'.cell? ⟨(ad.add (k * 3)).block, (ad.add (k * 3)).off + 1, none⟩ = some (.slice A4 p.f1.length c4) ∧ w'.cell? ⟨(ad.add (k * 3)).block, (ad.add (k * 3)).off + 2, none⟩ = some (.bool p.f2) ∧ w'.cell? (bd.add (k * 3)) = some (.int .i64 p.f0) ∧ w'.cell? ⟨(bd.add (k * 3)).block, (bd.add (k * 3)).off + 1, none⟩ = some (.slice B4 p.f1.length d4) ∧ w'.cell? ⟨(bd.add (k * 3)).block, (bd.add (k * 3)).off + 2, none⟩ = some (.bool p.f2)) (ds := []) #[false, false, false, false, false, false, false, false, false, false, false, false, false, false, false, false, false, false, false, false, false, false, false, false, false, false, false, false, false, false, false, false, false, false, false, false, false, false] (by kernel_rfl) rfl rfl ⟨x0, x1, x2, z0, z1, z2⟩ (fun hHeld => ?_)
      refine with_tabW st6tab st6bits (fun HT_ HW_ => ?_)
      have HB6 := Aside0.mk (below_drew1 HB.out)
      generalize wr.drew = w6 at HB6 hHeld ⊢
      refine pure_ (i := 0) (N := some 17) (v := ?_) (a' := ?_) #[true, false, false, false, false, false, false, false, false, false, false, false, false, false, false, false, false, false, false, false, false, false, false, false, false, false, false, false, false, false, false, false, false, false, false, false, false, false] rfl rfl (any_of HT_.out (by kernel_rfl)) (fun _ _ _ h => h) (Or.inl ⟨by rfl, ?_⟩) ?_ ?_
      rotate_left
      · intro w'
        go_simp
        with_reducible rfl
      rotate_left
      · simp only [Act.put, List.setIfInBounds_toArray, List.set_cons_zero, List.set_cons_succ, i64_w, i32_w]
        rfl
      refine pure_ (i := 1) (N := some 18) (v := ?_) (a' := ?_) #[true, true, false, false, false, false, false, false, false, false, false, false, false, false, false, false, false, false, false, false, false, false, false, false, false, false, false, false, false, false, false, false, false, false, false, false, false, false] rfl rfl (any_of HT_.out (by kernel_rfl)) (fun _ _ _ h => h) (Or.inl ⟨by rfl, ?_⟩) ?_ ?_
      rotate_left
      · intro w'
        go_simp
        with_reducible rfl
      rotate_left
      · simp only [Act.put, List.setIfInBounds_toArray, List.set_cons_zero, List.set_cons_succ, i64_w, i32_w]
        rfl
      refine pure_ (i := 2) (N := some 19) (v := ?_) (a' := ?_) #[true, true, true, false, false, false, false, false, false, false, false, false, false, false, false, false, false, false, false, false, false, false, false, false, false, false, false, false, false, false, false, false, false, false, false, false, false, false] rfl rfl (any_of HT_.out (by kernel_rfl)) (fun _ _ _ h => h) (Or.inl ⟨by rfl, ?_⟩) ?_ ?_
      rotate_left
      · intro w'
        go_simp
        with_reducible rfl
      rotate_left
      · simp only [Act.put, List.setIfInBounds_toArray, List.set_cons_zero, List.set_cons_succ, i64_w, i32_w]
        rfl
      refine pure_ (i := 3) (N := some 20) (v := ?_) (a' := ?_) #[true, true, true, true, false, false, false, false, false, false, false, false, false, false, false, false, false, false, false, false, false, false, false, false, false, false, false, false, false, false, false, false, false, false, false, false, false, false] rfl rfl (any_of HT_.out (by kernel_rfl)) (fun _ _ _ h => h) (Or.inl ⟨by rfl, ?_⟩) ?_ ?_
      rotate_left
      · intro w'
        go_simp
        with_reducible rfl
      rotate_left
      · simp only [Act.put, List.setIfInBounds_toArray, List.set_cons_zero, List.set_cons_succ, i64_w, i32_w]
        rfl
      refine take_ (i := 4) (N := some 21) (v := ?_) (a' := ?_) #[true, true, true, true, true, false, false, false, false, false, false, false, false, false, false, false, false, false, false, false, false, false, false, false, false, false, false, false, false, false, false, false, false, false, false, false, false, false] rfl rfl (take_ofW HT_.out HW_.out (by kernel_rfl)) (fun _ _ _ h => h) (Or.inl ⟨by rfl, ?_⟩) hHeld ?_ ?_
      rotate_left
      · rintro w' ⟨s0, s1, s2, s3, s4, s5⟩
        go_simp
        with_reducible rfl
      rotate_left
      · simp only [Act.put, List.setIfInBounds_toArray, List.set_cons_zero, List.set_cons_succ, i64_w, i32_w]
        rfl
      refine pure_ (i := 5) (N := some 22) (v := ?_) (a' := ?_) #[true, true, true, true, true, true, false, false, false, false, false, false, false, false, false, false, false, false, false, false, false, false, false, false, false, false, false, false, false, false, false, false, false, false, false, false, false, false] rfl rfl (any_of HT_.out (by kernel_rfl)) (fun _ _ _ h => h) (Or.inl ⟨by rfl, ?_⟩) ?_ ?_
      rotate_left
      · intro w'
        go_simp
        with_reducible rfl
      rotate_left
      · simp only [Act.put, List.setIfInBounds_toArray, List.set_cons_zero, List.set_cons_succ, i64_w, i32_w]
        rfl
      refine pure_ (i := 6) (N := some 23) (v := ?_) (a' := ?_) #[true, true, true, true, true, true, true, false, false, false, false, false, false, false, false, false, false, false, false, false, false, false, false, false, false, false, false, false, false, false, false, false, false, false, false, false, false, false] rfl rfl (any_of HT_.out (by kernel_rfl)) (fun _ _ _ h => h) (Or.inl ⟨by rfl, ?_⟩) ?_ ?_
      rotate_left
      · intro w'
        go_simp
        with_reducible rfl
      rotate_left
      · simp only [Act.put, List.setIfInBounds_toArray, List.set_cons_zero, List.set_cons_succ, i64_w, i32_w]
        rfl
      refine pure_ (i := 7) (N := some 24) (v := ?_) (a' := ?_) #[true, true, true, true, true, true, true, true, false, false, false, false, false, false, false, false, false, false, false, false, false, false, false, false, false, false, false, false, false, false, false, false, false, false, false, false, false, false] rfl rfl (any_of HT_.out (by kernel_rfl)) (fun _ _ _ h => h) (Or.inl ⟨by rfl, ?_⟩) ?_ ?_
      rotate_left
      · intro w'
        go_simp
        with_reducible rfl
      rotate_left
      · simp only [Act.put, List.setIfInBounds_toArray, List.set_cons_zero, List.set_cons_succ, i64_w, i32_w]
        rfl
      refine pure_ (i := 8) (N := some 25) (v := ?_) (a' := ?_) #[true, true, true, true, true, true, true, true, true, false, false, false, false, false, false, false, false, false, false, false, false, false, false, false, false, false, false, false, false, false, false, false, false, false, false, false, false, false] rfl rfl (any_of HT_.out (by kernel_rfl)) (fun _ _ _ h => h) (Or.inl ⟨by rfl, ?_⟩) ?_ ?_
      rotate_left
      · intro w'
        go_simp
        with_reducible rfl
      rotate_left
      · simp only [Act.put, List.setIfInBounds_toArray, List.set_cons_zero, List.set_cons_succ, i64_w, i32_w]
        rfl
      refine take_ (i := 9) (N := some 26) (v := ?_) (a' := ?_) #[true, true, true, true, true, true, true, true, true, true, false, false, false, false, false, false, false, false, false, false, false, false, false, false, false, false, false, false, false, false, false, false, false, false, false, false, false, false] rfl rfl (take_ofW HT_.out HW_.out (by kernel_rfl)) (fun _ _ _ h => h) (Or.inl ⟨by rfl, ?_⟩) hHeld ?_ ?_
      rotate_left
      · rintro w' ⟨s0, s1, s2, s3, s4, s5⟩
        go_simp
        with_reducible rfl
      rotate_left
      · simp only [Act.put, List.setIfInBounds_toArray, List.set_cons_zero, List.set_cons_succ, i64_w, i32_w]
        rfl
      refine pure_ (i := 10) (N := some 27) (v := ?_) (a' := ?_) #[true, true, true, true, true, true, true, true, true, true, true, false, false, false, false, false, false, false, false, false, false, false, false, false, false, false, false, false, false, false, false, false, false, false, false, false, false, false] rfl rfl (any_of HT_.out (by kernel_rfl)) (fun _ _ _ h => h) (Or.inl ⟨by rfl, ?_⟩) ?_ ?_
      rotate_left
      · intro w'
        go_simp
        with_reducible rfl
      rotate_left
      · simp only [Act.put, List.setIfInBounds_toArray, List.set_cons_zero, List.set_cons_succ, i64_w, i32_w]
        rfl
      refine pure_ (i := 11) (N := some 28) (v := ?_) (a' := ?_) #[true, true, true, true, true, true, true, true, true, true, true, true, false, false, false, false, false, false, false, false, false, false, false, false, false, false, false, false, false, false, false, false, false, false, false, false, false, false] rfl rfl (any_of HT_.out (by kernel_rfl)) (fun _ _ _ h => h) (Or.inl ⟨by rfl, ?_⟩) ?_ ?_
      rotate_left
      · intro w'
        go_simp
        with_reducible rfl
      rotate_left
      · simp only [Act.put, List.setIfInBounds_toArray, List.set_cons_zero, List.set_cons_succ, i64_w, i32_w]
        rfl
      refine pure_ (i := 12) (N := some 29) (v := ?_) (a' := ?_) #[true, true, true, true, true, true, true, true, true, true, true, true, true, false, false, false, false, false, false, false, false, false, false, false, false, false, false, false, false, false, false, false, false, false, false, false, false, false] rfl rfl (any_of HT_.out (by kernel_rfl)) (fun _ _ _ h => h) (Or.inl ⟨by rfl, ?_⟩) ?_ ?_
      rotate_left
      · intro w'
        go_simp
        with_reducible rfl
      rotate_left
      · simp only [Act.put, List.setIfInBounds_toArray, List.set_cons_zero, List.set_cons_succ, i64_w, i32_w]
        rfl
      refine pure_ (i := 13) (N := some 30) (v := ?_) (a' := ?_) #[true, true, true, true, true, true, true, true, true, true, true, true, true, true, false, false, false, false, false, false, false, false, false, false, false, false, false, false, false, false, false, false, false, false, false, false, false, false] rfl rfl (any_of HT_.out (by kernel_rfl)) (fun _ _ _ h => h) (Or.inl ⟨by rfl, ?_⟩) ?_ ?_
      rotate_left
      · intro w'
        go_simp
        with_reducible rfl
      rotate_left
      · simp only [Act.put, List.setIfInBounds_toArray, List.set_cons_zero, List.set_cons_succ, i64_w, i32_w]
        rfl
      refine pure_ (i := 14) (N := some 31) (v := ?_) (a' := ?_) #[true, true, true, true, true, true, true, true, true, true, true, true, true, true, true, false, false, false, false, false, false, false, false, false, false, false, false, false, false, false, false, false, false, false, false, false, false, false] rfl rfl (any_of HT_.out (by kernel_rfl)) (fun _ _ _ h => h) (Or.inl ⟨by rfl, ?_⟩) ?_ ?_
      rotate_left
      · intro w'
        go_simp
        with_reducible rfl
      rotate_left
      · simp only [Act.put, List.setIfInBounds_toArray, List.set_cons_zero, List.set_cons_succ, i64_w, i32_w]
        rfl
      refine pure_ (i := 15) (N := some 32) (v := ?_) (a' := ?_) #[true, true, true, true, true, true, true, true, true, true, true, true, true, true, true, true, false, false, false, false, false, false, false, false, false, false, false, false, false, false, false, false, false, false, false, false, false, false] rfl rfl (any_of HT_.out (by kernel_rfl)) (fun _ _ _ h => h) (Or.inl ⟨by rfl, ?_⟩) ?_ ?_
      rotate_left
      · intro w'
        go_simp
        with_reducible rfl
      rotate_left
      · simp only [Act.put, List.setIfInBounds_toArray, List.set_cons_zero, List.set_cons_succ, i64_w, i32_w]
        rfl
      refine take_ (i := 16) (N := some 33) (v := ?_) (a' := ?_) #[true, true, true, true, true, true, true, true, true, true, true, true, true, true, true, true, true, false, false, false, false, false, false, false, false, false, false, false, false, false, false, false, false, false, false, false, false, false] rfl rfl (take_ofW HT_.out HW_.out (by kernel_rfl)) (fun _ _ _ h => h) (Or.inl ⟨by rfl, ?_⟩) hHeld ?_ ?_
      rotate_left
      · rintro w' ⟨s0, s1, s2, s3, s4, s5⟩
        go_simp
        with_reducible rfl
      rotate_left
      · simp only [Act.put, List.setIfInBounds_toArray, List.set_cons_zero, List.set_cons_succ, i64_w, i32_w]
        rfl
      refine pure_ (i := 17) (N := some 34) (v := ?_) (a' := ?_) #[true, true, true, true, true, true, true, true, true, true, true, true, true, true, true, true, true, true, false, false, false, false, false, false, false, false, false, false, false, false, false, false, false, false, false, false, false, false] rfl rfl (any_of HT_.out (by kernel_rfl)) (fun _ _ _ h => h) (Or.inl ⟨by rfl, ?_⟩) ?_ ?_
      rotate_left
      · intro w'
        go_simp
        with_reducible rfl
      rotate_left
      · simp only [Act.put, List.setIfInBounds_toArray, List.set_cons_zero, List.set_cons_succ, i64_w, i32_w]
        rfl
      refine pure_ (i := 18) (N := some 35) (v := ?_) (a' := ?_) #[true, true, true, true, true, true, true, true, true, true, true, true, true, true, true, true, true, true, true, false, false, false, false, false, false, false, false, false, false, false, false, false, false, false, false, false, false, false] rfl rfl (any_of HT_.out (by kernel_rfl)) (fun _ _ _ h => h) (Or.inl ⟨by rfl, ?_⟩) ?_ ?_
      rotate_left
      · intro w'
        go_simp
        with_reducible rfl
      rotate_left
      · simp only [Act.put, List.setIfInBounds_toArray, List.set_cons_zero, List.set_cons_succ, i64_w, i32_w]
        rfl
      refine pure_ (i := 19) (N := some 36) (v := ?_) (a' := ?_) #[true, true, true, true, true, true, true, true, true, true, true, true, true, true, true, true, true, true, true, true, false, false, false, false, false, false, false, false, false, false, false, false, false, false, false, false, false, false] rfl rfl (any_of HT_.out (by kernel_rfl)) (fun _ _ _ h => h) (Or.inl ⟨by rfl, ?_⟩) ?_ ?_
      rotate_left
      · intro w'
        go_simp
        with_reducible rfl
      rotate_left
      · simp only [Act.put, List.setIfInBounds_toArray, List.set_cons_zero, List.set_cons_succ, i64_w, i32_w]
        rfl
      refine pure_ (i := 20) (N := some 37) (v := ?_) (a' := ?_) #[true, true, true, true, true, true, true, true, true, true, true, true, true, true, true, true, true, true, true, true, true, false, false, false, false, false, false, false, false, false, false, false, false, false, false, false, false, false] rfl rfl (any_of HT_.out (by kernel_rfl)) (fun _ _ _ h => h) (Or.inl ⟨by rfl, ?_⟩) ?_ ?_
      rotate_left
      · intro w'
        go_simp
        with_reducible rfl
      rotate_left
      · simp only [Act.put, List.setIfInBounds_toArray, List.set_cons_zero, List.set_cons_succ, i64_w, i32_w]
        rfl
      refine take_ (i := 21) (N := some 38) (v := ?_) (a' := ?_) #[true, true, true, true, true, true, true, true, true, true, true, true, true, true, true, true, true, true, true, true, true, true, false, false, false, false, false, false, false, false, false, false, false, false, false, false, false, false] rfl rfl (take_ofW HT_.out HW_.out (by kernel_rfl)) (fun _ _ _ h => h) (Or.inl ⟨by rfl, ?_⟩) hHeld ?_ ?_
      rotate_left
      · rintro w' ⟨s0, s1, s2, s3, s4, s5⟩
        go_simp
        with_reducible rfl
      rotate_left
      · simp only [Act.put, List.setIfInBounds_toArray, List.set_cons_zero, List.set_cons_succ, i64_w, i32_w]
        rfl
      refine pure_ (i := 22) (N := some 39) (v := ?_) (a' := ?_) #[true, true, true, true, true, true, true, true, true, true, true, true, true, true, true, true, true, true, true, true, true, true, true, false, false, false, false, false, false, false, false, false, false, false, false, false, false, false] rfl rfl (any_of HT_.out (by kernel_rfl)) (fun _ _ _ h => h) (Or.inl ⟨by rfl, ?_⟩) ?_ ?_
      rotate_left
      · intro w'
        go_simp
        with_reducible rfl
      rotate_left
      · simp only [Act.put, List.setIfInBounds_toArray, List.set_cons_zero, List.set_cons_succ, i64_w, i32_w]
        rfl
      refine pure_ (i := 23) (N := some 40) (v := ?_) (a' := ?_) #[true, true, true, true, true, true, true, true, true, true, true, true, true, true, true, true, true, true, true, true, true, true, true, true, false, false, false, false, false, false, false, false, false, false, false, false, false, false] rfl rfl (any_of HT_.out (by kernel_rfl)) (fun _ _ _ h => h) (Or.inl ⟨by rfl, ?_⟩) ?_ ?_
      rotate_left
      · intro w'
        go_simp
        with_reducible rfl
      rotate_left
      · simp only [Act.put, List.setIfInBounds_toArray, List.set_cons_zero, List.set_cons_succ, i64_w, i32_w]
        rfl
      refine pure_ (i := 24) (N := some 41) (v := ?_) (a' := ?_) #[true, true, true, true, true, true, true, true, true, true, true, true, true, true, true, true, true, true, true, true, true, true, true, true, true, false, false, false, false, false, false, false, false, false, false, false, false, false] rfl rfl (any_of HT_.out (by kernel_rfl)) (fun _ _ _ h => h) (Or.inl ⟨by rfl, ?_⟩) ?_ ?_
      rotate_left
      · intro w'
        go_simp
        with_reducible rfl
      rotate_left
      · simp only [Act.put, List.setIfInBounds_toArray, List.set_cons_zero, List.set_cons_succ, i64_w, i32_w]
        rfl
      refine pure_ (i := 25) (N := some 42) (v := ?_) (a' := ?_) #[true, true, true, true, true, true, true, true, true, true, true, true, true, true, true, true, true, true, true, true, true, true, true, true, true, true, false, false, false, false, false, false, false, false, false, false, false, false] rfl rfl (any_of HT_.out (by kernel_rfl)) (fun _ _ _ h => h) (Or.inl ⟨by rfl, ?_⟩) ?_ ?_
      rotate_left
      · intro w'
        go_simp
        with_reducible rfl
      rotate_left
      · simp only [Act.put, List.setIfInBounds_toArray, List.set_cons_zero, List.set_cons_succ, i64_w, i32_w]
        rfl
      refine pure_ (i := 26) (N := some 43) (v := ?_) (a' := ?_) #[true, true, true, true, true, true, true, true, true, true, true, true, true, true, true, true, true, true, true, true, true, true, true, true, true, true, true, false, false, false, false, false, false, false, false, false, false, false] rfl rfl (any_of HT_.out (by kernel_rfl)) (fun _ _ _ h => h) (Or.inl ⟨by rfl, ?_⟩) ?_ ?_
      rotate_left
      · intro w'
        go_simp
        with_reducible rfl
      rotate_left
      · simp only [Act.put, List.setIfInBounds_toArray, List.set_cons_zero, List.set_cons_succ, i64_w, i32_w]
        rfl
      refine pure_ (i := 27) (N := some 44) (v := ?_) (a' := ?_) #[true, true, true, true, true, true, true, true, true, true, true, true, true, true, true, true, true, true, true, true, true, true, true, true, true, true, true, true, false, false, false, false, false, false, false, false, false, false] rfl rfl (any_of HT_.out (by kernel_rfl)) (fun _ _ _ h => h) (Or.inl ⟨by rfl, ?_⟩) ?_ ?_
      rotate_left
      · intro w'
        go_simp
        with_reducible rfl
      rotate_left
      · simp only [Act.put, List.setIfInBounds_toArray, List.set_cons_zero, List.set_cons_succ, i64_w, i32_w]
        rfl
      refine pure_ (i := 28) (N := some 45) (v := ?_) (a' := ?_) #[true, true, true, true, true, true, true, true, true, true, true, true, true, true, true, true, true, true, true, true, true, true, true, true, true, true, true, true, true, false, false, false, false, false, false, false, false, false] rfl rfl (any_of HT_.out (by kernel_rfl)) (fun _ _ _ h => h) (Or.inl ⟨by rfl, ?_⟩) ?_ ?_
      rotate_left
      · intro w'
        go_simp
        with_reducible rfl
      rotate_left
      · simp only [Act.put, List.setIfInBounds_toArray, List.set_cons_zero, List.set_cons_succ, i64_w, i32_w]
        rfl
      refine take_ (i := 29) (N := some 46) (v := ?_) (a' := ?_) #[true, true, true, true, true, true, true, true, true, true, true, true, true, true, true, true, true, true, true, true, true, true, true, true, true, true, true, true, true, true, false, false, false, false, false, false, false, false] rfl rfl (take_ofW HT_.out HW_.out (by kernel_rfl)) (fun _ _ _ h => h) (Or.inl ⟨by rfl, ?_⟩) hHeld ?_ ?_
      rotate_left
      · rintro w' ⟨s0, s1, s2, s3, s4, s5⟩
        go_simp
        with_reducible rfl
      rotate_left
      · simp only [Act.put, List.setIfInBounds_toArray, List.set_cons_zero, List.set_cons_succ, i64_w, i32_w]
        rfl
      refine pure_ (i := 30) (N := some 47) (v := ?_) (a' := ?_) #[true, true, true, true, true, true, true, true, true, true, true, true, true, true, true, true, true, true, true, true, true, true, true, true, true, true, true, true, true, true, true, false, false, false, false, false, false, false] rfl rfl (any_of HT_.out (by kernel_rfl)) (fun _ _ _ h => h) (Or.inl ⟨by rfl, ?_⟩) ?_ ?_
      rotate_left
      · intro w'
        go_simp
        with_reducible rfl
      rotate_left
      · simp only [Act.put, List.setIfInBounds_toArray, List.set_cons_zero, List.set_cons_succ, i64_w, i32_w]
        rfl
      refine pure_ (i := 31) (N := some 48) (v := ?_) (a' := ?_) #[true, true, true, true, true, true, true, true, true, true, true, true, true, true, true, true, true, true, true, true, true, true, true, true, true, true, true, true, true, true, true, true, false, false, false, false, false, false] rfl rfl (any_of HT_.out (by kernel_rfl)) (fun _ _ _ h => h) (Or.inl ⟨by rfl, ?_⟩) ?_ ?_
      rotate_left
      · intro w'
        go_simp
        with_reducible rfl
      rotate_left
      · simp only [Act.put, List.setIfInBounds_toArray, List.set_cons_zero, List.set_cons_succ, i64_w, i32_w]
        rfl
      refine pure_ (i := 32) (N := some 49) (v := ?_) (a' := ?_) #[true, true, true, true, true, true, true, true, true, true, true, true, true, true, true, true, true, true, true, true, true, true, true, true, true, true, true, true, true, true, true, true, true, false, false, false, false, false] rfl rfl (any_of HT_.out (by kernel_rfl)) (fun _ _ _ h => h) (Or.inl ⟨by rfl, ?_⟩) ?_ ?_
      rotate_left
      · intro w'
        go_simp
        with_reducible rfl
      rotate_left
      · simp only [Act.put, List.setIfInBounds_toArray, List.set_cons_zero, List.set_cons_succ, i64_w, i32_w]
        rfl
      refine pure_ (i := 33) (N := some 50) (v := ?_) (a' := ?_) #[true, true, true, true, true, true, true, true, true, true, true, true, true, true, true, true, true, true, true, true, true, true, true, true, true, true, true, true, true, true, true, true, true, true, false, false, false, false] rfl rfl (any_of HT_.out (by kernel_rfl)) (fun _ _ _ h => h) (Or.inl ⟨by rfl, ?_⟩) ?_ ?_
      rotate_left
      · intro w'
        go_simp
        with_reducible rfl
      rotate_left
      · simp only [Act.put, List.setIfInBounds_toArray, List.set_cons_zero, List.set_cons_succ, i64_w, i32_w]
        rfl
      refine take_ (i := 34) (N := some 51) (v := ?_) (a' := ?_) #[true, true, true, true, true, true, true, true, true, true, true, true, true, true, true, true, true, true, true, true, true, true, true, true, true, true, true, true, true, true, true, true, true, true, true, false, false, false] rfl rfl (take_ofW HT_.out HW_.out (by kernel_rfl)) (fun _ _ _ h => h) (Or.inl ⟨by rfl, ?_⟩) hHeld ?_ ?_
      rotate_left
      · rintro w' ⟨s0, s1, s2, s3, s4, s5⟩
        go_simp
        with_reducible rfl
      rotate_left
      · simp only [Act.put, List.setIfInBounds_toArray, List.set_cons_zero, List.set_cons_succ, i64_w, i32_w]
        rfl
      refine one_ (i := 35) (N := some 52) #[true, true, true, true, true, true, true, true, true, true, true, true, true, true, true, true, true, true, true, true, true, true, true, true, true, true, true, true, true, true, true, true, true, true, true, true, false, false] rfl rfl (one_of HT_.out (by kernel_rfl)) (by decide) (fun K hK => ?_)
      refine goes_ Tryd.func19 (by kernel_rfl) rfl #[.slice A4 p.f1.length c4, .slice B4 p.f1.length d4] (by rfl) rfl rfl (by (try simp only [List.map_toArray, List.map_cons, List.map_nil]); first | done | rfl) ?_
      refine (squintlaw08_sameInts.calls KC A4 c4 p.f1 B4 d4 p.f1 true _ (Kd.C_below HI.out HB6.out) HL1.out (Kd.C_below KI.out HB6.out) HL2.out HK.out).mono ?_
      rintro e w7 ⟨rfl, hb⟩
      refine ⟨_, rfl, ?_⟩
      have HB7 := Aside0.mk (bel2 hb.below HB6.out)
      refine hK.out _ _ ⟨pw_cell_below hb.below hHeld.1, pw_cell_below hb.below hHeld.2.1, pw_cell_below hb.below hHeld.2.2.1, pw_cell_below hb.below hHeld.2.2.2.1, pw_cell_below hb.below hHeld.2.2.2.2.1, pw_cell_below hb.below hHeld.2.2.2.2.2⟩ (fun hHeld => ?_)
      clear hK K
      refine norm_ (a' := ?_) ?_ ?_
      rotate_left
      · show Act.put _ (some 52) _ = _
        simp only [Act.put, List.setIfInBounds_toArray, List.set_cons_zero, List.set_cons_succ, i64_w, i32_w]
        rfl
      refine pure_ (i := 36) (N := some 53) (v := ?_) (a' := ?_) #[true, true, true, true, true, true, true, true, true, true, true, true, true, true, true, true, true, true, true, true, true, true, true, true, true, true, true, true, true, true, true, true, true, true, true, true, true, false] rfl rfl (any_of HT_.out (by kernel_rfl)) (fun _ _ _ h => h) (Or.inl ⟨by rfl, ?_⟩) ?_ ?_
      rotate_left
      · intro w'
        go_simp
        with_reducible rfl
      rotate_left
      · simp only [Act.put, List.setIfInBounds_toArray, List.set_cons_zero, List.set_cons_succ, i64_w, i32_w]
        rfl
      refine pure_ (i := 37) (N := some 54) (v := ?_) (a' := ?_) #[true, true, true, true, true, true, true, true, true, true, true, true, true, true, true, true, true, true, true, true, true, true, true, true, true, true, true, true, true, true, true, true, true, true, true, true, true, true] rfl rfl (any_of HT_.out (by kernel_rfl)) (fun _ _ _ h => h) (Or.inl ⟨by rfl, ?_⟩) ?_ ?_
      rotate_left
      · intro w'
        go_simp
        with_reducible rfl
      rotate_left
      · simp only [Act.put, List.setIfInBounds_toArray, List.set_cons_zero, List.set_cons_succ, i64_w, i32_w]
        rfl
      refine done_ (done_of HT_.out (by kernel_rfl)) ?_
      clear hHeld
      go_wp2
      go_roundw
      case rel => exact ⟨k + 1, by go_num, by omega, HB7⟩
      case measure => simp [intOf]; omega
    · obtain rfl : k = ps.length := by omega
      go_wp2
      go_returns
      exact ⟨rfl, HB.out⟩
end Go.Proofs.YtfkfgjmhcfagkaaDoor.Given
end
section
namespace Go.Proofs.YtfkfgjmhcfagkaaDoor.Given
open Go.RowKit Go.Proofs.YtfkfgjmhcfagkaaDoorW.PrintWords Go.Proofs.YtfkfgjmhcfagkaaDoorW.PrintLast Go.Proofs.YtfkfgjmhcfagkaaDoorW.PrintMore Go.Proofs.YtfkfgjmhcfagkaaDoor.Print
set_option linter.unusedVariables false
set_option linter.unusedSimpArgs false
set_option maxRecDepth 100000 in
set_option maxHeartbeats 4000000 in
theorem same_unit (A0 A1 B0 B1 : Option Addr) (c0 c1 d0 d1 : Nat) (ps : List S57) (ts : List S54) (w : World) (h0 : Kd.C k57 w A0 ps.length ps) (h1 : Kd.C k54 w A1 ts.length ts) (g0 : Kd.C k57 w B0 ps.length ps) (g1 : Kd.C k54 w B1 ts.length ts) (hb : ∀ p ∈ ps, p.f4.length ≤ 4611686018427387904 ∧ ∀ x ∈ p.f4, x.f3.length ≤ 4611686018427387904) (hb1 : ∀ p ∈ ts, p.f1.length ≤ 4611686018427387904) :
    Calls Tryd.prog 28 #[.agg #[.slice A0 ps.length c0, .slice A1 ts.length c1], .agg #[.slice B0 ps.length d0, .slice B1 ts.length d1]] w fun e w' => e = .returned (.bool true) ∧ Below w.heap.size w w' := by
  have hu36 := Tryd.underlying36
  have H0 := Aside0.mk h0
  have H1 := Aside0.mk h1
  have G0 := Aside0.mk g0
  have G1 := Aside0.mk g1
  have HX := Aside0.mk hb
  have HY := Aside0.mk hb1
  have HB := Aside0.mk (Below.refl w.heap.size w)
  clear h0 h1 g0 g1 hb hb1
  go_enter Tryd.func28, Tryd.ntmps28
  go_wp2_with (first
    | ((with_reducible refine gate_dst (N := 2) rfl ?_); refine box_event ?hg (N := 2) ?hd (cs := #[.slice A0 ps.length c0, .slice A1 ts.length c1]) (t := 36) ?hr ?_; (case hd => rfl); (case hg => rfl); (case hr => first | (go_simp; done) | (go_simp; rfl)); intro gb hg w2 hbox hb; have n0_ := Aside0.mk (below_step HB.out hb); have BK := Aside0.mk hbox; have GB := Aside0.mk ((by rw [hg]; exact below_size HB.out) : w.heap.size ≤ gb); clear HB; have HB := n0_; clear n0_ hb hbox hg)
    | ((with_reducible refine gate_dst (N := 3) rfl ?_); refine box_event ?hg (N := 3) ?hd (cs := #[.slice B0 ps.length d0, .slice B1 ts.length d1]) (t := 36) ?hr ?_; (case hd => rfl); (case hg => rfl); (case hr => first | (go_simp; done) | (go_simp; rfl)); intro ga hg w3 hbox hb; have n0_ := Aside0.mk (below_step HB.out hb); have AK := Aside0.mk hbox; have BK3 := Aside0.mk (blk_below BK.out hb); clear HB; have HB := n0_; have x0 : w3.cell? ⟨gb, 0, none⟩ = some (.slice A0 ps.length c0) := (blk_cell BK3.out 0).trans rfl; have x1 : w3.cell? ⟨gb, 1, none⟩ = some (.slice A1 ts.length c1) := (blk_cell BK3.out 1).trans rfl; have z0 : w3.cell? ⟨ga, 0, none⟩ = some (.slice B0 ps.length d0) := (blk_cell AK.out 0).trans rfl; have z1 : w3.cell? ⟨ga, 1, none⟩ = some (.slice B1 ts.length d1) := (blk_cell AK.out 1).trans rfl; clear n0_ hb hbox hg)
    | (go_at_call 46; refine (same_progs A0 c0 B0 d0 ps w3 (Kd.C_below H0.out HB.out) (Kd.C_below G0.out HB.out) HX.out).mono ?_; rintro e w7 ⟨rfl, hb⟩; have y0 := pw_cell_below hb x1; have y1 := pw_cell_below hb z1; have HB7 := Aside0.mk (below_step HB.out hb); clear hb)
    | (go_at_call 45; refine (same_types A1 c1 B1 d1 ts _ (Kd.C_below H1.out HB7.out) (Kd.C_below G1.out HB7.out) HY.out).mono ?_; rintro e w8 ⟨rfl, hb⟩; have HB8 := Aside0.mk (below_step HB7.out hb); clear hb))
  go_ret
  exact ⟨rfl, HB8.out⟩
end Go.Proofs.YtfkfgjmhcfagkaaDoor.Given
end
section
namespace Go.Proofs.YtfkfgjmhcfagkaaDoor.Print
open Go.RowKit
open Go.RowKit Go.Proofs.YtfkfgjmhcfagkaaDoorW.PrintWords Go.Proofs.YtfkfgjmhcfagkaaDoorW.PrintLast Go.Proofs.YtfkfgjmhcfagkaaDoorW.PrintMore
attribute [local go_sem] max2_int min2_int max_two min_two max_three min_three max_four min_four
set_option linter.unusedVariables false
set_option linter.unusedSimpArgs false
mutual
def code_Pops.j0 : Nat → Int → Int → Int → Bool → Int → Int → Int → List Int → Option (Int)
  | 0, _, _, _, _, _, _, _, _ => none
  | k + 1, x3, x4, x12, x13, x102000, x102001, x102002, x102003 => if x13 = true then (some 1) else (if x12 = 12 then (code_Pops.j1 k x3 x4 x12 (x12 == 12) x102000 x102001 x102002 x102003) else (if x12 = 14 then (code_Pops.j1 k x3 x4 x12 (x12 == 14) x102000 x102001 x102002 x102003) else (code_Pops.j1 k x3 x4 x12 (x12 == 18) x102000 x102001 x102002 x102003)))
def code_Pops.j1 : Nat → Int → Int → Int → Bool → Int → Int → Int → List Int → Option (Int)
  | 0, _, _, _, _, _, _, _, _ => none
  | k + 1, x3, x4, x12, x20, x102000, x102001, x102002, x102003 => if x20 = true then (some 2) else (if x12 = 10 then (code_Pops.j2 k x3 x4 x12 (x12 == 10) x102000 x102001 x102002 x102003) else (code_Pops.j2 k x3 x4 x12 (x12 == 11) x102000 x102001 x102002 x102003))
def code_Pops.j2 : Nat → Int → Int → Int → Bool → Int → Int → Int → List Int → Option (Int)
  | 0, _, _, _, _, _, _, _, _ => none
  | k + 1, x3, x4, x12, x24, x102000, x102001, x102002, x102003 => if x24 = true then (some x3) else (if x12 = 23 then (code_Pops.j3 k x3 x4 x12 (x12 == 23) x102000 x102001 x102002 x102003) else (code_Pops.j3 k x3 x4 x12 (x12 == 24) x102000 x102001 x102002 x102003))
def code_Pops.j3 : Nat → Int → Int → Int → Bool → Int → Int → Int → List Int → Option (Int)
  | 0, _, _, _, _, _, _, _, _ => none
  | k + 1, x3, x4, x12, x28, x102000, x102001, x102002, x102003 => if x28 = true then (some (wrap64 ((mn x3 9223372036854775806) + 1))) else (if x12 = 22 then (some (mx x102002 0)) else (if x12 = 16 then (code_Pops.l0 k 1 x102003 (x102003.length : Int) 0) else (if x12 = 27 then (code_Pops.l1 k x4 0 x102000 x102001 x102002 x102003) else (some x4))))
def code_Pops.l0 : Nat → Int → List Int → Int → Int → Option (Int)
  | 0, _, _, _, _ => none
  | k + 1, x4, x42, x43, x44 => if x44 < x43 then (if 0 ≤ x44 then (if x44 < (x42.length : Int) then (if (rd x42 x44) = (-1) then (code_Pops.l0 k (wrap64 (x4 + 1)) x42 x43 (wrap64 (x44 + 1))) else (code_Pops.l0 k x4 x42 x43 (wrap64 (x44 + 1)))) else (none)) else (none)) else (some x4)
def code_Pops.l1 : Nat → Int → Int → Int → Int → Int → List Int → Option (Int)
  | 0, _, _, _, _, _, _ => none
  | k + 1, x4, x7, x102000, x102001, x102002, x102003 => if x7 < (x102003.length : Int) then (if 0 ≤ x7 then (if (rd x102003 x7) = 1 then (code_Pops.l1 k (wrap64 ((wrap64 (x4 + 1)) + 1)) (wrap64 (x7 + 2)) x102000 x102001 x102002 x102003) else (code_Pops.l1 k (wrap64 (x4 + 1)) (wrap64 (x7 + 2)) x102000 x102001 x102002 x102003)) else (none)) else (some x4)
end
def code_Pops.f (k : Nat) (a0_0 : Int) (a0_1 : Int) (a0_2 : Int) (l0_3 : List Int) : Option (Int) := if a0_0 = 5 then (code_Pops.j0 k (mx a0_1 0) 0 a0_0 (a0_0 == 5) a0_0 a0_1 a0_2 l0_3) else (if a0_0 = 9 then (code_Pops.j0 k (mx a0_1 0) 0 a0_0 (a0_0 == 9) a0_0 a0_1 a0_2 l0_3) else (if a0_0 = 13 then (code_Pops.j0 k (mx a0_1 0) 0 a0_0 (a0_0 == 13) a0_0 a0_1 a0_2 l0_3) else (if a0_0 = 15 then (code_Pops.j0 k (mx a0_1 0) 0 a0_0 (a0_0 == 15) a0_0 a0_1 a0_2 l0_3) else (if a0_0 = 17 then (code_Pops.j0 k (mx a0_1 0) 0 a0_0 (a0_0 == 17) a0_0 a0_1 a0_2 l0_3) else (code_Pops.j0 k (mx a0_1 0) 0 a0_0 (a0_0 == 20) a0_0 a0_1 a0_2 l0_3)))))
set_option maxHeartbeats 8000000 in
set_option maxRecDepth 100000 in
theorem code_Pops.calls (k : Nat) (a0_0 : Int) (a0_1 : Int) (a0_2 : Int) (A0_3 : Option Addr) (c0_3 : Nat) (l0_3 : List Int) (r : Int) (w : World) (hr0_3 : Kd.C (Kd.int .i64) w A0_3 l0_3.length l0_3) (hc0_3 : l0_3.length ≤ c0_3) (h : code_Pops.f k a0_0 a0_1 a0_2 l0_3 = some r) :
    Calls Tryd.prog 15 #[.agg #[.int .i64 a0_0, .int .i64 a0_1, .int .i64 a0_2, .slice A0_3 l0_3.length c0_3]] w fun e w' => e = .returned (.int .i64 r) ∧ Below w.heap.size w w' := by
  have hu28 := Tryd.underlying28
  have HR0_3 := Aside0.mk hr0_3
  have HC0_3 := Aside0.mk hc0_3
  clear hr0_3 hc0_3
  have HB := Aside0.mk (Below.refl w.heap.size w)
  have H : (if a0_0 = 5 then (code_Pops.j0 k (mx a0_1 0) 0 a0_0 (a0_0 == 5) a0_0 a0_1 a0_2 l0_3) else (if a0_0 = 9 then (code_Pops.j0 k (mx a0_1 0) 0 a0_0 (a0_0 == 9) a0_0 a0_1 a0_2 l0_3) else (if a0_0 = 13 then (code_Pops.j0 k (mx a0_1 0) 0 a0_0 (a0_0 == 13) a0_0 a0_1 a0_2 l0_3) else (if a0_0 = 15 then (code_Pops.j0 k (mx a0_1 0) 0 a0_0 (a0_0 == 15) a0_0 a0_1 a0_2 l0_3) else (if a0_0 = 17 then (code_Pops.j0 k (mx a0_1 0) 0 a0_0 (a0_0 == 17) a0_0 a0_1 a0_2 l0_3) else (code_Pops.j0 k (mx a0_1 0) 0 a0_0 (a0_0 == 20) a0_0 a0_1 a0_2 l0_3)))))) = some r := h
  clear h
  obtain ⟨ji2, hji2⟩ : ∃ j_ : Int, (mx a0_1 0) = j_ := ⟨_, rfl⟩
  replace H : (if a0_0 = 5 then (code_Pops.j0 k ji2 0 a0_0 (a0_0 == 5) a0_0 a0_1 a0_2 l0_3) else (if a0_0 = 9 then (code_Pops.j0 k ji2 0 a0_0 (a0_0 == 9) a0_0 a0_1 a0_2 l0_3) else (if a0_0 = 13 then (code_Pops.j0 k ji2 0 a0_0 (a0_0 == 13) a0_0 a0_1 a0_2 l0_3) else (if a0_0 = 15 then (code_Pops.j0 k ji2 0 a0_0 (a0_0 == 15) a0_0 a0_1 a0_2 l0_3) else (if a0_0 = 17 then (code_Pops.j0 k ji2 0 a0_0 (a0_0 == 17) a0_0 a0_1 a0_2 l0_3) else (code_Pops.j0 k ji2 0 a0_0 (a0_0 == 20) a0_0 a0_1 a0_2 l0_3)))))) = some r := by first | (rw [hji2] at H; exact H) | (simp only [hji2] at H ⊢; exact H)
  (try (have hji2l : 0 ≤ ji2 := by (rw [← hji2]; unfold mx; (repeat' split) <;> omega)))
  (try (have hji2m : 0 ≤ ji2 := by omega))
  have hji2_ : (if a0_1 < 0 then 0 else a0_1) = ji2 := hji2
  have HC3 := Aside0.mk H
  clear H
  go_enter Tryd.func15, Tryd.ntmps15
  go_upto_if 13 with (first | ((with_reducible refine gate_dst (N := 1) rfl ?_); refine box_event ?hg (N := 1) ?hd (cs := #[.int .i64 a0_0, .int .i64 a0_1, .int .i64 a0_2, .slice A0_3 l0_3.length c0_3]) (t := 28) ?hr ?_; (case hd => rfl); (case hg => rfl); (case hr => first | (go_simp; done) | (go_simp; rfl)); intro gb101 hg w4 hbox hb; have n0_ := Aside0.mk (below_step (by repeat (first | (with_reducible first | exact HB.out | apply below_alloc | apply pw_below_drewN | apply below_drew1) | exact HB.out)) hb); have n1_ := Aside0.mk (hbox); have n2_ := Aside0.mk ((by rw [hg]; exact (below_size (by repeat (first | (with_reducible first | exact HB.out | apply below_alloc | apply pw_below_drewN | apply below_drew1) | exact HB.out))) : w.heap.size ≤ gb101)); have n3_ := Aside0.mk ((by rw [hg]; exact (below_size (by repeat (first | (with_reducible first | exact HB.out | apply below_alloc | apply pw_below_drewN | apply below_drew1) | exact HB.out))) : w.heap.size ≤ gb101)); clear HB; have HB := n0_; have BK101 := n1_; have GW101 := n2_; have GE101 := n3_; clear n0_ n1_ n2_ n3_; clear hb hbox hg; have hcz5_0 : w4.cell? ⟨gb101, 0, none⟩ = some (.int .i64 a0_0) := (blk_cell BK101.out 0).trans rfl; have hcz5_1 : w4.cell? ⟨gb101, 1, none⟩ = some (.int .i64 a0_1) := (blk_cell BK101.out 1).trans rfl; have hcz5_2 : w4.cell? ⟨gb101, 2, none⟩ = some (.int .i64 a0_2) := (blk_cell BK101.out 2).trans rfl; have hcz5_3 : w4.cell? ⟨gb101, 3, none⟩ = some (.slice A0_3 l0_3.length c0_3) := (blk_cell BK101.out 3).trans rfl; have hfz5_0 := blk_frozen BK101.out 0; have hfz5_1 := blk_frozen BK101.out 1; have hfz5_2 := blk_frozen BK101.out 2; have hfz5_3 := blk_frozen BK101.out 3))
  (try simp only [Act.put, List.setIfInBounds_toArray, List.set_cons_zero, List.set_cons_succ])
  go_cut [13] (fun v13 wc => ∃ (kq : Nat) (x13_2 : Bool), v13 = .bool x13_2 ∧ Aside0 (code_Pops.j0 kq ji2 0 a0_0 x13_2 a0_0 a0_1 a0_2 l0_3 = some r) ∧ Aside0 (kq ≤ k) ∧ Aside0 (wc.heap[gb101]? = some (.cells #[.int .i64 a0_0, .int .i64 a0_1, .int .i64 a0_2, (.slice A0_3 l0_3.length c0_3)] 28 (0, 0))) ∧ Aside0 (Below w.heap.size w wc))
  case first =>
    have H := HC3.out
    clear HC3
    by_cases c6 : a0_0 = 5
    · rw [if_pos c6] at H
      have c6b0 : (a0_0 == 5) = true := beq_iff_eq.mpr c6
      have c6b1 : (a0_0 != 5) = false := bne_eq_false_iff_eq.mpr c6
      clear c6
      (first | rw [c6b0] | (simp only [i64_w, i32_w]; rw [c6b0]) | skip)
      have H' := Aside0.mk H
      clear H
      go_wp2
      go_meet
      case rel => exact ⟨_, ((a0_0 == 5)), (by first | rfl | (simp; done) | (simp [*]; done)), H', ⟨by first | omega | exact Nat.le_refl _⟩, ⟨by (with_reducible repeat (first | refine blk_drewN ?_ _ | refine blk_drew ?_ | refine blk_alloc ?_ _)); exact BK101.out⟩, ⟨by repeat (first | (with_reducible first | exact HB.out | apply below_alloc | apply pw_below_drewN | apply below_drew1 | refine below_set ?_ GE101.out) | exact HB.out)⟩⟩
    · rw [if_neg c6] at H
      have c6b0 : (a0_0 == 5) = false := beq_eq_false_iff_ne.mpr c6
      have c6b1 : (a0_0 != 5) = true := bne_iff_ne.mpr c6
      (first | rw [c6b0] | (simp only [i64_w, i32_w]; rw [c6b0]) | skip)
      by_cases c7 : a0_0 = 9
      · rw [if_pos c7] at H
        have c7b0 : (a0_0 == 9) = true := beq_iff_eq.mpr c7
        have c7b1 : (a0_0 != 9) = false := bne_eq_false_iff_eq.mpr c7
        clear c7
        have H' := Aside0.mk H
        clear H
        go_wp2
        go_meet
        case rel => exact ⟨_, ((a0_0 == 9)), (by first | rfl | (simp; done) | (simp [*]; done)), H', ⟨by first | omega | exact Nat.le_refl _⟩, ⟨by (with_reducible repeat (first | refine blk_drewN ?_ _ | refine blk_drew ?_ | refine blk_alloc ?_ _)); exact BK101.out⟩, ⟨by repeat (first | (with_reducible first | exact HB.out | apply below_alloc | apply pw_below_drewN | apply below_drew1 | refine below_set ?_ GE101.out) | exact HB.out)⟩⟩
      · rw [if_neg c7] at H
        have c7b0 : (a0_0 == 9) = false := beq_eq_false_iff_ne.mpr c7
        have c7b1 : (a0_0 != 9) = true := bne_iff_ne.mpr c7
        by_cases c8 : a0_0 = 13
        · rw [if_pos c8] at H
          have c8b0 : (a0_0 == 13) = true := beq_iff_eq.mpr c8
          have c8b1 : (a0_0 != 13) = false := bne_eq_false_iff_eq.mpr c8
          clear c8
          have H' := Aside0.mk H
          clear H
          go_wp2
          go_meet
          case rel => exact ⟨_, ((a0_0 == 13)), (by first | rfl | (simp; done) | (simp [*]; done)), H', ⟨by first | omega | exact Nat.le_refl _⟩, ⟨by (with_reducible repeat (first | refine blk_drewN ?_ _ | refine blk_drew ?_ | refine blk_alloc ?_ _)); exact BK101.out⟩, ⟨by repeat (first | (with_reducible first | exact HB.out | apply below_alloc | apply pw_below_drewN | apply below_drew1 | refine below_set ?_ GE101.out) | exact HB.out)⟩⟩
        · rw [if_neg c8] at H
          have c8b0 : (a0_0 == 13) = false := beq_eq_false_iff_ne.mpr c8
          have c8b1 : (a0_0 != 13) = true := bne_iff_ne.mpr c8
          by_cases c9 : a0_0 = 15
          · rw [if_pos c9] at H
            have c9b0 : (a0_0 == 15) = true := beq_iff_eq.mpr c9
            have c9b1 : (a0_0 != 15) = false := bne_eq_false_iff_eq.mpr c9
            clear c9
            have H' := Aside0.mk H
            clear H
            go_wp2
            go_meet
            case rel => exact ⟨_, ((a0_0 == 15)), (by first | rfl | (simp; done) | (simp [*]; done)), H', ⟨by first | omega | exact Nat.le_refl _⟩, ⟨by (with_reducible repeat (first | refine blk_drewN ?_ _ | refine blk_drew ?_ | refine blk_alloc ?_ _)); exact BK101.out⟩, ⟨by repeat (first | (with_reducible first | exact HB.out | apply below_alloc | apply pw_below_drewN | apply below_drew1 | refine below_set ?_ GE101.out) | exact HB.out)⟩⟩
          · rw [if_neg c9] at H
            have c9b0 : (a0_0 == 15) = false := beq_eq_false_iff_ne.mpr c9
            have c9b1 : (a0_0 != 15) = true := bne_iff_ne.mpr c9
            by_cases c10 : a0_0 = 17
            · rw [if_pos c10] at H
              have c10b0 : (a0_0 == 17) = true := beq_iff_eq.mpr c10
              have c10b1 : (a0_0 != 17) = false := bne_eq_false_iff_eq.mpr c10
              clear c10
              have H' := Aside0.mk H
              clear H
              go_wp2
              go_meet
              case rel => exact ⟨_, ((a0_0 == 17)), (by first | rfl | (simp; done) | (simp [*]; done)), H', ⟨by first | omega | exact Nat.le_refl _⟩, ⟨by (with_reducible repeat (first | refine blk_drewN ?_ _ | refine blk_drew ?_ | refine blk_alloc ?_ _)); exact BK101.out⟩, ⟨by repeat (first | (with_reducible first | exact HB.out | apply below_alloc | apply pw_below_drewN | apply below_drew1 | refine below_set ?_ GE101.out) | exact HB.out)⟩⟩
            · rw [if_neg c10] at H
              have c10b0 : (a0_0 == 17) = false := beq_eq_false_iff_ne.mpr c10
              have c10b1 : (a0_0 != 17) = true := bne_iff_ne.mpr c10
              have H' := Aside0.mk H
              clear H
              go_wp2
              go_meet
              case rel => exact ⟨_, ((a0_0 == 20)), (by first | rfl | (simp; done) | (simp [*]; done)), H', ⟨by first | omega | exact Nat.le_refl _⟩, ⟨by (with_reducible repeat (first | refine blk_drewN ?_ _ | refine blk_drew ?_ | refine blk_alloc ?_ _)); exact BK101.out⟩, ⟨by repeat (first | (with_reducible first | exact HB.out | apply below_alloc | apply pw_below_drewN | apply below_drew1 | refine below_set ?_ GE101.out) | exact HB.out)⟩⟩
  case rest =>
    clear HC3
    try clear c1
    try clear p2
    try clear c6
    try clear c6b0
    try clear c6b1
    try clear c7
    try clear c7b0
    try clear c7b1
    try clear c8
    try clear c8b0
    try clear c8b1
    try clear c9
    try clear c9b0
    try clear c9b1
    try clear c10
    try clear c10b0
    try clear c10b1
    try clear hcz5_0
    try clear hcz5_1
    try clear hcz5_2
    try clear hcz5_3
    try clear hfz5_0
    try clear hfz5_1
    try clear hfz5_2
    try clear hfz5_3
    obtain ⟨kq, x13_2, rfl, HA, HJ2, BK101, HB⟩ := hcut
    cases kq with
    | zero => exact absurd HA.out (by simp [code_Pops.j0])
    | succ kj2 =>
      have H := HA.out
      clear HA
      simp only [code_Pops.j0] at H
      by_cases c11 : x13_2 = true
      · subst c11
        have H1 : (some 1) = some r := by rw [if_pos rfl] at H; exact H
        clear H
        have H := H1
        clear H1
        obtain rfl := Option.some.inj H
        go_wp2
        go_ret
        exact ⟨by first | rfl | (simp [errW_none, errW_some] <;> rfl) | (simp only [← hji2]; first | rfl | (simp [errW_none, errW_some] <;> rfl)) | (simp [*, errW_none, errW_some] <;> rfl), by repeat (first | (with_reducible first | exact HB.out | apply below_alloc | apply pw_below_drewN | apply below_drew1 | refine below_set ?_ GE101.out) | exact HB.out)⟩
      · replace c11 := Bool.eq_false_iff.mpr c11
        subst c11
        have H1 : (if a0_0 = 12 then (code_Pops.j1 kj2 ji2 0 a0_0 (a0_0 == 12) a0_0 a0_1 a0_2 l0_3) else (if a0_0 = 14 then (code_Pops.j1 kj2 ji2 0 a0_0 (a0_0 == 14) a0_0 a0_1 a0_2 l0_3) else (code_Pops.j1 kj2 ji2 0 a0_0 (a0_0 == 18) a0_0 a0_1 a0_2 l0_3))) = some r := by rw [if_neg (show ¬ (false = true) by decide)] at H; exact H
        clear H
        have H := H1
        clear H1
        have HC12 := Aside0.mk H
        clear H
        go_upto_if 20 with (fail)
        go_cut [20] (fun v20 wc => ∃ (kq : Nat) (x20_11 : Bool), v20 = .bool x20_11 ∧ Aside0 (code_Pops.j1 kq ji2 0 a0_0 x20_11 a0_0 a0_1 a0_2 l0_3 = some r) ∧ Aside0 (kq ≤ kj2) ∧ Aside0 (wc.heap[gb101]? = some (.cells #[.int .i64 a0_0, .int .i64 a0_1, .int .i64 a0_2, (.slice A0_3 l0_3.length c0_3)] 28 (0, 0))) ∧ Aside0 (Below w.heap.size w wc))
        case first =>
          have H := HC12.out
          clear HC12
          by_cases c13 : a0_0 = 12
          · rw [if_pos c13] at H
            have c13b0 : (a0_0 == 12) = true := beq_iff_eq.mpr c13
            have c13b1 : (a0_0 != 12) = false := bne_eq_false_iff_eq.mpr c13
            clear c13
            (first | rw [c13b0] | (simp only [i64_w, i32_w]; rw [c13b0]) | skip)
            have H' := Aside0.mk H
            clear H
            go_wp2
            go_meet
            case rel => exact ⟨_, ((a0_0 == 12)), (by first | rfl | (simp; done) | (simp [*]; done)), H', ⟨by have := HJ2.out; first | omega | exact Nat.le_refl _⟩, ⟨by (with_reducible repeat (first | refine blk_drewN ?_ _ | refine blk_drew ?_ | refine blk_alloc ?_ _)); exact BK101.out⟩, ⟨by repeat (first | (with_reducible first | exact HB.out | apply below_alloc | apply pw_below_drewN | apply below_drew1 | refine below_set ?_ GE101.out) | exact HB.out)⟩⟩
          · rw [if_neg c13] at H
            have c13b0 : (a0_0 == 12) = false := beq_eq_false_iff_ne.mpr c13
            have c13b1 : (a0_0 != 12) = true := bne_iff_ne.mpr c13
            (first | rw [c13b0] | (simp only [i64_w, i32_w]; rw [c13b0]) | skip)
            by_cases c14 : a0_0 = 14
            · rw [if_pos c14] at H
              have c14b0 : (a0_0 == 14) = true := beq_iff_eq.mpr c14
              have c14b1 : (a0_0 != 14) = false := bne_eq_false_iff_eq.mpr c14
              clear c14
              have H' := Aside0.mk H
              clear H
              go_wp2
              go_meet
              case rel => exact ⟨_, ((a0_0 == 14)), (by first | rfl | (simp; done) | (simp [*]; done)), H', ⟨by have := HJ2.out; first | omega | exact Nat.le_refl _⟩, ⟨by (with_reducible repeat (first | refine blk_drewN ?_ _ | refine blk_drew ?_ | refine blk_alloc ?_ _)); exact BK101.out⟩, ⟨by repeat (first | (with_reducible first | exact HB.out | apply below_alloc | apply pw_below_drewN | apply below_drew1 | refine below_set ?_ GE101.out) | exact HB.out)⟩⟩
            · rw [if_neg c14] at H
              have c14b0 : (a0_0 == 14) = false := beq_eq_false_iff_ne.mpr c14
              have c14b1 : (a0_0 != 14) = true := bne_iff_ne.mpr c14
              have H' := Aside0.mk H
              clear H
              go_wp2
              go_meet
              case rel => exact ⟨_, ((a0_0 == 18)), (by first | rfl | (simp; done) | (simp [*]; done)), H', ⟨by have := HJ2.out; first | omega | exact Nat.le_refl _⟩, ⟨by (with_reducible repeat (first | refine blk_drewN ?_ _ | refine blk_drew ?_ | refine blk_alloc ?_ _)); exact BK101.out⟩, ⟨by repeat (first | (with_reducible first | exact HB.out | apply below_alloc | apply pw_below_drewN | apply below_drew1 | refine below_set ?_ GE101.out) | exact HB.out)⟩⟩
        case rest =>
          clear HC12
          try clear c1
          try clear p2
          try clear c6
          try clear c6b0
          try clear c6b1
          try clear c7
          try clear c7b0
          try clear c7b1
          try clear c8
          try clear c8b0
          try clear c8b1
          try clear c9
          try clear c9b0
          try clear c9b1
          try clear c10
          try clear c10b0
          try clear c10b1
          try clear c11
          try clear c13
          try clear c13b0
          try clear c13b1
          try clear c14
          try clear c14b0
          try clear c14b1
          try clear hcz5_0
          try clear hcz5_1
          try clear hcz5_2
          try clear hcz5_3
          try clear hfz5_0
          try clear hfz5_1
          try clear hfz5_2
          try clear hfz5_3
          try clear p2
          obtain ⟨kq, x20_11, rfl, HA, HJ11, BK101, HB⟩ := hcut
          cases kq with
          | zero => exact absurd HA.out (by simp [code_Pops.j1])
          | succ kj11 =>
            have H := HA.out
            clear HA
            simp only [code_Pops.j1] at H
            by_cases c15 : x20_11 = true
            · subst c15
              have H1 : (some 2) = some r := by rw [if_pos rfl] at H; exact H
              clear H
              have H := H1
              clear H1
              obtain rfl := Option.some.inj H
              go_wp2
              go_ret
              exact ⟨by first | rfl | (simp [errW_none, errW_some] <;> rfl) | (simp only [← hji2]; first | rfl | (simp [errW_none, errW_some] <;> rfl)) | (simp [*, errW_none, errW_some] <;> rfl), by repeat (first | (with_reducible first | exact HB.out | apply below_alloc | apply pw_below_drewN | apply below_drew1 | refine below_set ?_ GE101.out) | exact HB.out)⟩
            · replace c15 := Bool.eq_false_iff.mpr c15
              subst c15
              have H1 : (if a0_0 = 10 then (code_Pops.j2 kj11 ji2 0 a0_0 (a0_0 == 10) a0_0 a0_1 a0_2 l0_3) else (code_Pops.j2 kj11 ji2 0 a0_0 (a0_0 == 11) a0_0 a0_1 a0_2 l0_3)) = some r := by rw [if_neg (show ¬ (false = true) by decide)] at H; exact H
              clear H
              have H := H1
              clear H1
              have HC16 := Aside0.mk H
              clear H
              go_upto_if 24 with (fail)
              go_cut [24] (fun v24 wc => ∃ (kq : Nat) (x24_15 : Bool), v24 = .bool x24_15 ∧ Aside0 (code_Pops.j2 kq ji2 0 a0_0 x24_15 a0_0 a0_1 a0_2 l0_3 = some r) ∧ Aside0 (kq ≤ kj11) ∧ Aside0 (wc.heap[gb101]? = some (.cells #[.int .i64 a0_0, .int .i64 a0_1, .int .i64 a0_2, (.slice A0_3 l0_3.length c0_3)] 28 (0, 0))) ∧ Aside0 (Below w.heap.size w wc))
              case first =>
                have H := HC16.out
                clear HC16
                by_cases c17 : a0_0 = 10
                · rw [if_pos c17] at H
                  have c17b0 : (a0_0 == 10) = true := beq_iff_eq.mpr c17
                  have c17b1 : (a0_0 != 10) = false := bne_eq_false_iff_eq.mpr c17
                  clear c17
                  (first | rw [c17b0] | (simp only [i64_w, i32_w]; rw [c17b0]) | skip)
                  have H' := Aside0.mk H
                  clear H
                  go_wp2
                  go_meet
                  case rel => exact ⟨_, ((a0_0 == 10)), (by first | rfl | (simp; done) | (simp [*]; done)), H', ⟨by have := HJ2.out; have := HJ11.out; first | omega | exact Nat.le_refl _⟩, ⟨by (with_reducible repeat (first | refine blk_drewN ?_ _ | refine blk_drew ?_ | refine blk_alloc ?_ _)); exact BK101.out⟩, ⟨by repeat (first | (with_reducible first | exact HB.out | apply below_alloc | apply pw_below_drewN | apply below_drew1 | refine below_set ?_ GE101.out) | exact HB.out)⟩⟩
                · rw [if_neg c17] at H
                  have c17b0 : (a0_0 == 10) = false := beq_eq_false_iff_ne.mpr c17
                  have c17b1 : (a0_0 != 10) = true := bne_iff_ne.mpr c17
                  (first | rw [c17b0] | (simp only [i64_w, i32_w]; rw [c17b0]) | skip)
                  have H' := Aside0.mk H
                  clear H
                  go_wp2
                  go_meet
                  case rel => exact ⟨_, ((a0_0 == 11)), (by first | rfl | (simp; done) | (simp [*]; done)), H', ⟨by have := HJ2.out; have := HJ11.out; first | omega | exact Nat.le_refl _⟩, ⟨by (with_reducible repeat (first | refine blk_drewN ?_ _ | refine blk_drew ?_ | refine blk_alloc ?_ _)); exact BK101.out⟩, ⟨by repeat (first | (with_reducible first | exact HB.out | apply below_alloc | apply pw_below_drewN | apply below_drew1 | refine below_set ?_ GE101.out) | exact HB.out)⟩⟩
              case rest =>
                clear HC16
                try clear c1
                try clear p2
                try clear c6
                try clear c6b0
                try clear c6b1
                try clear c7
                try clear c7b0
                try clear c7b1
                try clear c8
                try clear c8b0
                try clear c8b1
                try clear c9
                try clear c9b0
                try clear c9b1
                try clear c10
                try clear c10b0
                try clear c10b1
                try clear c11
                try clear c13
                try clear c13b0
                try clear c13b1
                try clear c14
                try clear c14b0
                try clear c14b1
                try clear c15
                try clear c17
                try clear c17b0
                try clear c17b1
                try clear hcz5_0
                try clear hcz5_1
                try clear hcz5_2
                try clear hcz5_3
                try clear hfz5_0
                try clear hfz5_1
                try clear hfz5_2
                try clear hfz5_3
                try clear p2
                obtain ⟨kq, x24_15, rfl, HA, HJ15, BK101, HB⟩ := hcut
                cases kq with
                | zero => exact absurd HA.out (by simp [code_Pops.j2])
                | succ kj15 =>
                  have H := HA.out
                  clear HA
                  simp only [code_Pops.j2] at H
                  by_cases c18 : x24_15 = true
                  · subst c18
                    have H1 : (some ji2) = some r := by rw [if_pos rfl] at H; exact H
                    clear H
                    have H := H1
                    clear H1
                    obtain rfl := Option.some.inj H
                    go_wp2
                    go_ret
                    exact ⟨by first | rfl | (simp [errW_none, errW_some] <;> rfl) | (simp only [← hji2]; first | rfl | (simp [errW_none, errW_some] <;> rfl)) | (simp [*, errW_none, errW_some] <;> rfl), by repeat (first | (with_reducible first | exact HB.out | apply below_alloc | apply pw_below_drewN | apply below_drew1 | refine below_set ?_ GE101.out) | exact HB.out)⟩
                  · replace c18 := Bool.eq_false_iff.mpr c18
                    subst c18
                    have H1 : (if a0_0 = 23 then (code_Pops.j3 kj15 ji2 0 a0_0 (a0_0 == 23) a0_0 a0_1 a0_2 l0_3) else (code_Pops.j3 kj15 ji2 0 a0_0 (a0_0 == 24) a0_0 a0_1 a0_2 l0_3)) = some r := by rw [if_neg (show ¬ (false = true) by decide)] at H; exact H
                    clear H
                    have H := H1
                    clear H1
                    have HC19 := Aside0.mk H
                    clear H
                    go_upto_if 28 with (fail)
                    go_cut [28] (fun v28 wc => ∃ (kq : Nat) (x28_18 : Bool), v28 = .bool x28_18 ∧ Aside0 (code_Pops.j3 kq ji2 0 a0_0 x28_18 a0_0 a0_1 a0_2 l0_3 = some r) ∧ Aside0 (kq ≤ kj15) ∧ Aside0 (wc.heap[gb101]? = some (.cells #[.int .i64 a0_0, .int .i64 a0_1, .int .i64 a0_2, (.slice A0_3 l0_3.length c0_3)] 28 (0, 0))) ∧ Aside0 (Below w.heap.size w wc))
                    case first =>
                      have H := HC19.out
                      clear HC19
                      by_cases c20 : a0_0 = 23
                      · rw [if_pos c20] at H
                        have c20b0 : (a0_0 == 23) = true := beq_iff_eq.mpr c20
                        have c20b1 : (a0_0 != 23) = false := bne_eq_false_iff_eq.mpr c20
                        clear c20
                        (first | rw [c20b0] | (simp only [i64_w, i32_w]; rw [c20b0]) | skip)
                        have H' := Aside0.mk H
                        clear H
                        go_wp2
                        go_meet
                        case rel => exact ⟨_, ((a0_0 == 23)), (by first | rfl | (simp; done) | (simp [*]; done)), H', ⟨by have := HJ2.out; have := HJ11.out; have := HJ15.out; first | omega | exact Nat.le_refl _⟩, ⟨by (with_reducible repeat (first | refine blk_drewN ?_ _ | refine blk_drew ?_ | refine blk_alloc ?_ _)); exact BK101.out⟩, ⟨by repeat (first | (with_reducible first | exact HB.out | apply below_alloc | apply pw_below_drewN | apply below_drew1 | refine below_set ?_ GE101.out) | exact HB.out)⟩⟩
                      · rw [if_neg c20] at H
                        have c20b0 : (a0_0 == 23) = false := beq_eq_false_iff_ne.mpr c20
                        have c20b1 : (a0_0 != 23) = true := bne_iff_ne.mpr c20
                        (first | rw [c20b0] | (simp only [i64_w, i32_w]; rw [c20b0]) | skip)
                        have H' := Aside0.mk H
                        clear H
                        go_wp2
                        go_meet
                        case rel => exact ⟨_, ((a0_0 == 24)), (by first | rfl | (simp; done) | (simp [*]; done)), H', ⟨by have := HJ2.out; have := HJ11.out; have := HJ15.out; first | omega | exact Nat.le_refl _⟩, ⟨by (with_reducible repeat (first | refine blk_drewN ?_ _ | refine blk_drew ?_ | refine blk_alloc ?_ _)); exact BK101.out⟩, ⟨by repeat (first | (with_reducible first | exact HB.out | apply below_alloc | apply pw_below_drewN | apply below_drew1 | refine below_set ?_ GE101.out) | exact HB.out)⟩⟩
                    case rest =>
                      clear HC19
                      try clear c1
                      try clear c2
                      try clear p2
                      try clear c6
                      try clear c6b0
                      try clear c6b1
                      try clear c7
                      try clear c7b0
                      try clear c7b1
                      try clear c8
                      try clear c8b0
                      try clear c8b1
                      try clear c9
                      try clear c9b0
                      try clear c9b1
                      try clear c10
                      try clear c10b0
                      try clear c10b1
                      try clear c11
                      try clear c13
                      try clear c13b0
                      try clear c13b1
                      try clear c14
                      try clear c14b0
                      try clear c14b1
                      try clear c15
                      try clear c17
                      try clear c17b0
                      try clear c17b1
                      try clear c18
                      try clear c20
                      try clear c20b0
                      try clear c20b1
                      try clear hcz5_0
                      try clear hcz5_1
                      try clear hcz5_2
                      try clear hcz5_3
                      try clear hfz5_0
                      try clear hfz5_1
                      try clear hfz5_2
                      try clear hfz5_3
                      try clear p2
                      obtain ⟨kq, x28_18, rfl, HA, HJ18, BK101, HB⟩ := hcut
                      cases kq with
                      | zero => exact absurd HA.out (by simp [code_Pops.j3])
                      | succ kj18 =>
                        have H := HA.out
                        clear HA
                        simp only [code_Pops.j3] at H
                        by_cases c21 : x28_18 = true
                        · subst c21
                          have H1 : (some (wrap64 ((mn ji2 9223372036854775806) + 1))) = some r := by rw [if_pos rfl] at H; exact H
                          clear H
                          have H := H1
                          clear H1
                          obtain ⟨ji22, hji22⟩ : ∃ j_ : Int, (mn ji2 9223372036854775806) = j_ := ⟨_, rfl⟩
                          replace H : (some (wrap64 ((ji22) + 1))) = some r := by first | (rw [hji22] at H; exact H) | (simp only [hji22] at H ⊢; exact H)
                          have hji22_ : (if 9223372036854775806 < ji2 then 9223372036854775806 else ji2) = ji22 := hji22
                          obtain rfl := Option.some.inj H
                          go_wp2
                          go_ret
                          exact ⟨by first | rfl | ((have l1 : 0 ≤ ji22 := by (rw [← hji22, ← hji2]; unfold mn mx; split <;> (try split) <;> omega)); (have l2 : ji22 ≤ 9223372036854775806 := by (rw [← hji22]; unfold mn; split <;> omega)); rw [show wrap64 (ji22 + 1) = ji22 + 1 by simp only [wrap64]; omega] <;> rfl) | (simp [errW_none, errW_some] <;> rfl) | (simp only [← hji2, ← hji22]; first | rfl | (simp [errW_none, errW_some] <;> rfl)) | (simp [*, errW_none, errW_some] <;> rfl), by repeat (first | (with_reducible first | exact HB.out | apply below_alloc | apply pw_below_drewN | apply below_drew1 | refine below_set ?_ GE101.out) | exact HB.out)⟩
                        · replace c21 := Bool.eq_false_iff.mpr c21
                          subst c21
                          have H1 : (if a0_0 = 22 then (some (mx a0_2 0)) else (if a0_0 = 16 then (code_Pops.l0 kj18 1 l0_3 (l0_3.length : Int) 0) else (if a0_0 = 27 then (code_Pops.l1 kj18 0 0 a0_0 a0_1 a0_2 l0_3) else (some 0)))) = some r := by rw [if_neg (show ¬ (false = true) by decide)] at H; exact H
                          clear H
                          have H := H1
                          clear H1
                          by_cases c23 : a0_0 = 22
                          · rw [if_pos c23] at H
                            have c23b0 : (a0_0 == 22) = true := beq_iff_eq.mpr c23
                            have c23b1 : (a0_0 != 22) = false := bne_eq_false_iff_eq.mpr c23
                            clear c23
                            obtain ⟨ji24, hji24⟩ : ∃ j_ : Int, (mx a0_2 0) = j_ := ⟨_, rfl⟩
                            replace H : (some ji24) = some r := by first | (rw [hji24] at H; exact H) | (simp only [hji24] at H ⊢; exact H)
                            have hji24_ : (if a0_2 < 0 then 0 else a0_2) = ji24 := hji24
                            obtain rfl := Option.some.inj H
                            have hcz25_0 : wc.cell? ⟨gb101, 0, none⟩ = some (.int .i64 a0_0) := (blk_cell BK101.out 0).trans rfl
                            have hcz25_1 : wc.cell? ⟨gb101, 1, none⟩ = some (.int .i64 a0_1) := (blk_cell BK101.out 1).trans rfl
                            have hcz25_2 : wc.cell? ⟨gb101, 2, none⟩ = some (.int .i64 a0_2) := (blk_cell BK101.out 2).trans rfl
                            have hcz25_3 : wc.cell? ⟨gb101, 3, none⟩ = some (.slice A0_3 l0_3.length c0_3) := (blk_cell BK101.out 3).trans rfl
                            have hfz25_0 := blk_frozen BK101.out 0
                            have hfz25_1 := blk_frozen BK101.out 1
                            have hfz25_2 := blk_frozen BK101.out 2
                            have hfz25_3 := blk_frozen BK101.out 3
                            go_wp2
                            go_ret
                            exact ⟨by first | rfl | (simp [errW_none, errW_some] <;> rfl) | (simp only [← hji2, ← hji24]; first | rfl | (simp [errW_none, errW_some] <;> rfl)) | (simp [*, errW_none, errW_some] <;> rfl), by repeat (first | (with_reducible first | exact HB.out | apply below_alloc | apply pw_below_drewN | apply below_drew1 | refine below_set ?_ GE101.out) | exact HB.out)⟩
                          · rw [if_neg c23] at H
                            have c23b0 : (a0_0 == 22) = false := beq_eq_false_iff_ne.mpr c23
                            have c23b1 : (a0_0 != 22) = true := bne_iff_ne.mpr c23
                            by_cases c26 : a0_0 = 16
                            · rw [if_pos c26] at H
                              have c26b0 : (a0_0 == 16) = true := beq_iff_eq.mpr c26
                              have c26b1 : (a0_0 != 16) = false := bne_eq_false_iff_eq.mpr c26
                              clear c26
                              have H' := Aside0.mk H
                              clear H
                              have hcz27_0 : wc.cell? ⟨gb101, 0, none⟩ = some (.int .i64 a0_0) := (blk_cell BK101.out 0).trans rfl
                              have hcz27_1 : wc.cell? ⟨gb101, 1, none⟩ = some (.int .i64 a0_1) := (blk_cell BK101.out 1).trans rfl
                              have hcz27_2 : wc.cell? ⟨gb101, 2, none⟩ = some (.int .i64 a0_2) := (blk_cell BK101.out 2).trans rfl
                              have hcz27_3 : wc.cell? ⟨gb101, 3, none⟩ = some (.slice A0_3 l0_3.length c0_3) := (blk_cell BK101.out 3).trans rfl
                              have hfz27_0 := blk_frozen BK101.out 0
                              have hfz27_1 := blk_frozen BK101.out 1
                              have hfz27_2 := blk_frozen BK101.out 2
                              have hfz27_3 := blk_frozen BK101.out 3
                              go_wp2
                              go_loopg [4, 44] kj18 (fun kq v4 v44 w' => ∃ (x4_5 : Int) (x44_5 : Int), v4 = .int .i64 x4_5 ∧ v44 = .int .i64 x44_5 ∧ Aside0 (code_Pops.l0 kq x4_5 l0_3 (l0_3.length : Int) x44_5 = some r) ∧ Aside0 (kq ≤ kj18) ∧ Aside0 (w'.heap[gb101]? = some (.cells #[.int .i64 a0_0, .int .i64 a0_1, .int .i64 a0_2, (.slice A0_3 l0_3.length c0_3)] 28 (0, 0))) ∧ Aside0 (Below w.heap.size w w'))
                              case atStart => exact ⟨(1), (0), (by first | rfl | (simp; done) | (simp [*]; done)), (by first | rfl | (simp; done) | (simp [*]; done)), H', ⟨Nat.le_refl _⟩, ⟨by (with_reducible repeat (first | refine blk_drewN ?_ _ | refine blk_drew ?_ | refine blk_alloc ?_ _)); exact BK101.out⟩, ⟨by repeat (first | (with_reducible first | exact HB.out | apply below_alloc | apply pw_below_drewN | apply below_drew1 | refine below_set ?_ GE101.out) | exact HB.out)⟩⟩
                              case round =>
                                clear H'
                                try clear c1
                                try clear c2
                                try clear p2
                                try clear c6
                                try clear c6b0
                                try clear c6b1
                                try clear p6
                                try clear c7
                                try clear c7b0
                                try clear c7b1
                                try clear c8
                                try clear c8b0
                                try clear c8b1
                                try clear c9
                                try clear c9b0
                                try clear c9b1
                                try clear c10
                                try clear c10b0
                                try clear c10b1
                                try clear c11
                                try clear c13
                                try clear c13b0
                                try clear c13b1
                                try clear c14
                                try clear c14b0
                                try clear c14b1
                                try clear c15
                                try clear c17
                                try clear c17b0
                                try clear c17b1
                                try clear c18
                                try clear c20
                                try clear c20b0
                                try clear c20b1
                                try clear c21
                                try clear c23
                                try clear c23b0
                                try clear c23b1
                                try clear c26
                                try clear c26b0
                                try clear c26b1
                                try clear hcz25_0
                                try clear hcz25_1
                                try clear hcz25_2
                                try clear hcz25_3
                                try clear hcz27_0
                                try clear hcz27_1
                                try clear hcz27_2
                                try clear hcz27_3
                                try clear hcz5_0
                                try clear hcz5_1
                                try clear hcz5_2
                                try clear hcz5_3
                                try clear hfz25_0
                                try clear hfz25_1
                                try clear hfz25_2
                                try clear hfz25_3
                                try clear hfz27_0
                                try clear hfz27_1
                                try clear hfz27_2
                                try clear hfz27_3
                                try clear hfz5_0
                                try clear hfz5_1
                                try clear hfz5_2
                                try clear hfz5_3
                                try clear p2
                                obtain ⟨x4_5, x44_5, rfl, rfl, HA, HK5, BK101, HB⟩ := hrel
                                cases gk with
                                | zero => exact absurd HA.out (by simp [code_Pops.l0])
                                | succ k5 =>
                                  have H := HA.out
                                  clear HA
                                  simp only [code_Pops.l0] at H
                                  by_cases c28 : x44_5 < (l0_3.length : Int)
                                  · rw [if_pos c28] at H
                                    have c28b0 : decide (x44_5 < (l0_3.length : Int)) = true := decide_eq_true c28
                                    clear c28
                                    by_cases c29 : 0 ≤ x44_5
                                    · rw [if_pos c29] at H
                                      have c29b0 : decide (0 ≤ x44_5) = true := decide_eq_true c29
                                      clear c29
                                      by_cases c30 : x44_5 < (l0_3.length : Int)
                                      · rw [if_pos c30] at H
                                        have c30b0 : decide (x44_5 < (l0_3.length : Int)) = true := decide_eq_true c30
                                        clear c30
                                        by_cases c31 : (rd l0_3 x44_5) = (-1)
                                        · rw [if_pos c31] at H
                                          have c31b0 : ((rd l0_3 x44_5) == (-1)) = true := beq_iff_eq.mpr c31
                                          have c31b1 : ((rd l0_3 x44_5) != (-1)) = false := bne_eq_false_iff_eq.mpr c31
                                          clear c31
                                          have H' := Aside0.mk H
                                          clear H
                                          have p102 : 0 ≤ (x44_5 : Int) := of_decide_eq_true (by first | (with_reducible assumption) | assumption)
                                          have q102 : x44_5 < (l0_3.length : Int) := of_decide_eq_true (by first | (with_reducible assumption) | assumption)
                                          obtain ⟨ad102, e102, hx102_0⟩ := Kd.at_int HR0_3.out x44_5 p102 q102
                                          cases e102
                                          replace hx102_0 := (HB.out.cell (World.block_lt_of_cell? w _ hx102_0)).trans hx102_0
                                          replace p102 := eq_true p102
                                          replace q102 := eq_true q102
                                          go_wp2
                                          go_roundg k5
                                          case measure => have := HJ2.out; have := HJ11.out; have := HJ15.out; have := HJ18.out; have := HK5.out; omega
                                          case rel => exact ⟨(wrap64 (x4_5 + 1)), (wrap64 (x44_5 + 1)), (by first | rfl | (simp; done) | (simp [*]; done)), (by first | rfl | (simp; done) | (simp [*]; done)), H', ⟨by have := HJ2.out; have := HJ11.out; have := HJ15.out; have := HJ18.out; have := HK5.out; omega⟩, ⟨by (with_reducible repeat (first | refine blk_drewN ?_ _ | refine blk_drew ?_ | refine blk_alloc ?_ _)); exact BK101.out⟩, ⟨by repeat (first | (with_reducible first | exact HB.out | apply below_alloc | apply pw_below_drewN | apply below_drew1 | refine below_set ?_ GE101.out) | exact HB.out)⟩⟩
                                        · rw [if_neg c31] at H
                                          have c31b0 : ((rd l0_3 x44_5) == (-1)) = false := beq_eq_false_iff_ne.mpr c31
                                          have c31b1 : ((rd l0_3 x44_5) != (-1)) = true := bne_iff_ne.mpr c31
                                          have H' := Aside0.mk H
                                          clear H
                                          have p102 : 0 ≤ (x44_5 : Int) := of_decide_eq_true (by first | (with_reducible assumption) | assumption)
                                          have q102 : x44_5 < (l0_3.length : Int) := of_decide_eq_true (by first | (with_reducible assumption) | assumption)
                                          obtain ⟨ad102, e102, hx102_0⟩ := Kd.at_int HR0_3.out x44_5 p102 q102
                                          cases e102
                                          replace hx102_0 := (HB.out.cell (World.block_lt_of_cell? w _ hx102_0)).trans hx102_0
                                          replace p102 := eq_true p102
                                          replace q102 := eq_true q102
                                          go_wp2
                                          go_roundg k5
                                          case measure => have := HJ2.out; have := HJ11.out; have := HJ15.out; have := HJ18.out; have := HK5.out; omega
                                          case rel => exact ⟨(x4_5), (wrap64 (x44_5 + 1)), (by first | rfl | (simp; done) | (simp [*]; done)), (by first | rfl | (simp; done) | (simp [*]; done)), H', ⟨by have := HJ2.out; have := HJ11.out; have := HJ15.out; have := HJ18.out; have := HK5.out; omega⟩, ⟨by (with_reducible repeat (first | refine blk_drewN ?_ _ | refine blk_drew ?_ | refine blk_alloc ?_ _)); exact BK101.out⟩, ⟨by repeat (first | (with_reducible first | exact HB.out | apply below_alloc | apply pw_below_drewN | apply below_drew1 | refine below_set ?_ GE101.out) | exact HB.out)⟩⟩
                                      · rw [if_neg c30] at H
                                        exact absurd H (by simp)
                                    · rw [if_neg c29] at H
                                      exact absurd H (by simp)
                                  · rw [if_neg c28] at H
                                    have c28b0 : decide (x44_5 < (l0_3.length : Int)) = false := decide_eq_false c28
                                    clear c28
                                    obtain rfl := Option.some.inj H
                                    go_wp2
                                    go_ret
                                    exact ⟨by first | rfl | (simp [errW_none, errW_some] <;> rfl) | (simp only [← hji2]; first | rfl | (simp [errW_none, errW_some] <;> rfl)) | (simp [*, errW_none, errW_some] <;> rfl), by repeat (first | (with_reducible first | exact HB.out | apply below_alloc | apply pw_below_drewN | apply below_drew1 | refine below_set ?_ GE101.out) | exact HB.out)⟩
                            · rw [if_neg c26] at H
                              have c26b0 : (a0_0 == 16) = false := beq_eq_false_iff_ne.mpr c26
                              have c26b1 : (a0_0 != 16) = true := bne_iff_ne.mpr c26
                              by_cases c32 : a0_0 = 27
                              · rw [if_pos c32] at H
                                have c32b0 : (a0_0 == 27) = true := beq_iff_eq.mpr c32
                                have c32b1 : (a0_0 != 27) = false := bne_eq_false_iff_eq.mpr c32
                                clear c32
                                have H' := Aside0.mk H
                                clear H
                                go_wp2
                                go_loopg [4, 7] kj18 (fun kq v4 v7 w' => ∃ (x4_5 : Int) (x7_5 : Int), v4 = .int .i64 x4_5 ∧ v7 = .int .i64 x7_5 ∧ Aside0 (code_Pops.l1 kq x4_5 x7_5 a0_0 a0_1 a0_2 l0_3 = some r) ∧ Aside0 (kq ≤ kj18) ∧ Aside0 (w'.heap[gb101]? = some (.cells #[.int .i64 a0_0, .int .i64 a0_1, .int .i64 a0_2, (.slice A0_3 l0_3.length c0_3)] 28 (0, 0))) ∧ Aside0 (Below w.heap.size w w'))
                                case atStart => exact ⟨(0), (0), (by first | rfl | (simp; done) | (simp [*]; done)), (by first | rfl | (simp; done) | (simp [*]; done)), H', ⟨Nat.le_refl _⟩, ⟨by (with_reducible repeat (first | refine blk_drewN ?_ _ | refine blk_drew ?_ | refine blk_alloc ?_ _)); exact BK101.out⟩, ⟨by repeat (first | (with_reducible first | exact HB.out | apply below_alloc | apply pw_below_drewN | apply below_drew1 | refine below_set ?_ GE101.out) | exact HB.out)⟩⟩
                                case round =>
                                  clear H'
                                  try clear c1
                                  try clear p1
                                  try clear q1
                                  try clear hx1
                                  try clear c2
                                  try clear p2
                                  try clear c3
                                  try clear c6
                                  try clear c6b0
                                  try clear c6b1
                                  try clear p6
                                  try clear c7
                                  try clear c7b0
                                  try clear c7b1
                                  try clear c8
                                  try clear c8b0
                                  try clear c8b1
                                  try clear c9
                                  try clear c9b0
                                  try clear c9b1
                                  try clear c10
                                  try clear c10b0
                                  try clear c10b1
                                  try clear p10
                                  try clear q10
                                  try clear hx10
                                  try clear c11
                                  try clear c13
                                  try clear c13b0
                                  try clear c13b1
                                  try clear c14
                                  try clear c14b0
                                  try clear c14b1
                                  try clear c15
                                  try clear c17
                                  try clear c17b0
                                  try clear c17b1
                                  try clear c18
                                  try clear c20
                                  try clear c20b0
                                  try clear c20b1
                                  try clear c21
                                  try clear c23
                                  try clear c23b0
                                  try clear c23b1
                                  try clear c26
                                  try clear c26b0
                                  try clear c26b1
                                  try clear c28
                                  try clear c28b0
                                  try clear c29
                                  try clear c29b0
                                  try clear c30
                                  try clear c30b0
                                  try clear c31
                                  try clear c31b0
                                  try clear c31b1
                                  try clear c32
                                  try clear c32b0
                                  try clear c32b1
                                  try clear hcz25_0
                                  try clear hcz25_1
                                  try clear hcz25_2
                                  try clear hcz25_3
                                  try clear hcz27_0
                                  try clear hcz27_1
                                  try clear hcz27_2
                                  try clear hcz27_3
                                  try clear hcz5_0
                                  try clear hcz5_1
                                  try clear hcz5_2
                                  try clear hcz5_3
                                  try clear hfz25_0
                                  try clear hfz25_1
                                  try clear hfz25_2
                                  try clear hfz25_3
                                  try clear hfz27_0
                                  try clear hfz27_1
                                  try clear hfz27_2
                                  try clear hfz27_3
                                  try clear hfz5_0
                                  try clear hfz5_1
                                  try clear hfz5_2
                                  try clear hfz5_3
                                  try clear hx102_0
                                  try clear p102
                                  try clear p2
                                  try clear p6
                                  try clear q102
                                  obtain ⟨x4_5, x7_5, rfl, rfl, HA, HK5, BK101, HB⟩ := hrel
                                  cases gk with
                                  | zero => exact absurd HA.out (by simp [code_Pops.l1])
                                  | succ k5 =>
                                    have H := HA.out
                                    clear HA
                                    simp only [code_Pops.l1] at H
                                    by_cases c33 : x7_5 < (l0_3.length : Int)
                                    · rw [if_pos c33] at H
                                      have c33b0 : decide (x7_5 < (l0_3.length : Int)) = true := decide_eq_true c33
                                      clear c33
                                      by_cases c34 : 0 ≤ x7_5
                                      · rw [if_pos c34] at H
                                        have c34b0 : decide (0 ≤ x7_5) = true := decide_eq_true c34
                                        clear c34
                                        by_cases c35 : (rd l0_3 x7_5) = 1
                                        · rw [if_pos c35] at H
                                          have c35b0 : ((rd l0_3 x7_5) == 1) = true := beq_iff_eq.mpr c35
                                          have c35b1 : ((rd l0_3 x7_5) != 1) = false := bne_eq_false_iff_eq.mpr c35
                                          clear c35
                                          have H' := Aside0.mk H
                                          clear H
                                          have hcz36_0 : wr.cell? ⟨gb101, 0, none⟩ = some (.int .i64 a0_0) := (blk_cell BK101.out 0).trans rfl
                                          have hcz36_1 : wr.cell? ⟨gb101, 1, none⟩ = some (.int .i64 a0_1) := (blk_cell BK101.out 1).trans rfl
                                          have hcz36_2 : wr.cell? ⟨gb101, 2, none⟩ = some (.int .i64 a0_2) := (blk_cell BK101.out 2).trans rfl
                                          have hcz36_3 : wr.cell? ⟨gb101, 3, none⟩ = some (.slice A0_3 l0_3.length c0_3) := (blk_cell BK101.out 3).trans rfl
                                          have hfz36_0 := blk_frozen BK101.out 0
                                          have hfz36_1 := blk_frozen BK101.out 1
                                          have hfz36_2 := blk_frozen BK101.out 2
                                          have hfz36_3 := blk_frozen BK101.out 3
                                          have p103 : 0 ≤ (x7_5 : Int) := of_decide_eq_true (by first | (with_reducible assumption) | assumption)
                                          have q103 : x7_5 < (l0_3.length : Int) := of_decide_eq_true (by first | (with_reducible assumption) | assumption)
                                          obtain ⟨ad103, e103, hx103_0⟩ := Kd.at_int HR0_3.out x7_5 p103 q103
                                          cases e103
                                          replace hx103_0 := (HB.out.cell (World.block_lt_of_cell? w _ hx103_0)).trans hx103_0
                                          replace p103 := eq_true p103
                                          replace q103 := eq_true q103
                                          go_wp2
                                          go_roundg k5
                                          case measure => have := HJ2.out; have := HJ11.out; have := HJ15.out; have := HJ18.out; have := HK5.out; omega
                                          case rel => exact ⟨(wrap64 ((wrap64 (x4_5 + 1)) + 1)), (wrap64 (x7_5 + 2)), (by first | rfl | (simp; done) | (simp [*]; done)), (by first | rfl | (simp; done) | (simp [*]; done)), H', ⟨by have := HJ2.out; have := HJ11.out; have := HJ15.out; have := HJ18.out; have := HK5.out; omega⟩, ⟨by (with_reducible repeat (first | refine blk_drewN ?_ _ | refine blk_drew ?_ | refine blk_alloc ?_ _)); exact BK101.out⟩, ⟨by repeat (first | (with_reducible first | exact HB.out | apply below_alloc | apply pw_below_drewN | apply below_drew1 | refine below_set ?_ GE101.out) | exact HB.out)⟩⟩
                                        · rw [if_neg c35] at H
                                          have c35b0 : ((rd l0_3 x7_5) == 1) = false := beq_eq_false_iff_ne.mpr c35
                                          have c35b1 : ((rd l0_3 x7_5) != 1) = true := bne_iff_ne.mpr c35
                                          have H' := Aside0.mk H
                                          clear H
                                          have hcz37_0 : wr.cell? ⟨gb101, 0, none⟩ = some (.int .i64 a0_0) := (blk_cell BK101.out 0).trans rfl
                                          have hcz37_1 : wr.cell? ⟨gb101, 1, none⟩ = some (.int .i64 a0_1) := (blk_cell BK101.out 1).trans rfl
                                          have hcz37_2 : wr.cell? ⟨gb101, 2, none⟩ = some (.int .i64 a0_2) := (blk_cell BK101.out 2).trans rfl
                                          have hcz37_3 : wr.cell? ⟨gb101, 3, none⟩ = some (.slice A0_3 l0_3.length c0_3) := (blk_cell BK101.out 3).trans rfl
                                          have hfz37_0 := blk_frozen BK101.out 0
                                          have hfz37_1 := blk_frozen BK101.out 1
                                          have hfz37_2 := blk_frozen BK101.out 2
                                          have hfz37_3 := blk_frozen BK101.out 3
                                          have p103 : 0 ≤ (x7_5 : Int) := of_decide_eq_true (by first | (with_reducible assumption) | assumption)
                                          have q103 : x7_5 < (l0_3.length : Int) := of_decide_eq_true (by first | (with_reducible assumption) | assumption)
                                          obtain ⟨ad103, e103, hx103_0⟩ := Kd.at_int HR0_3.out x7_5 p103 q103
                                          cases e103
                                          replace hx103_0 := (HB.out.cell (World.block_lt_of_cell? w _ hx103_0)).trans hx103_0
                                          replace p103 := eq_true p103
                                          replace q103 := eq_true q103
                                          go_wp2
                                          go_roundg k5
                                          case measure => have := HJ2.out; have := HJ11.out; have := HJ15.out; have := HJ18.out; have := HK5.out; omega
                                          case rel => exact ⟨(wrap64 (x4_5 + 1)), (wrap64 (x7_5 + 2)), (by first | rfl | (simp; done) | (simp [*]; done)), (by first | rfl | (simp; done) | (simp [*]; done)), H', ⟨by have := HJ2.out; have := HJ11.out; have := HJ15.out; have := HJ18.out; have := HK5.out; omega⟩, ⟨by (with_reducible repeat (first | refine blk_drewN ?_ _ | refine blk_drew ?_ | refine blk_alloc ?_ _)); exact BK101.out⟩, ⟨by repeat (first | (with_reducible first | exact HB.out | apply below_alloc | apply pw_below_drewN | apply below_drew1 | refine below_set ?_ GE101.out) | exact HB.out)⟩⟩
                                      · rw [if_neg c34] at H
                                        exact absurd H (by simp)
                                    · rw [if_neg c33] at H
                                      have c33b0 : decide (x7_5 < (l0_3.length : Int)) = false := decide_eq_false c33
                                      clear c33
                                      obtain rfl := Option.some.inj H
                                      have hcz38_0 : wr.cell? ⟨gb101, 0, none⟩ = some (.int .i64 a0_0) := (blk_cell BK101.out 0).trans rfl
                                      have hcz38_1 : wr.cell? ⟨gb101, 1, none⟩ = some (.int .i64 a0_1) := (blk_cell BK101.out 1).trans rfl
                                      have hcz38_2 : wr.cell? ⟨gb101, 2, none⟩ = some (.int .i64 a0_2) := (blk_cell BK101.out 2).trans rfl
                                      have hcz38_3 : wr.cell? ⟨gb101, 3, none⟩ = some (.slice A0_3 l0_3.length c0_3) := (blk_cell BK101.out 3).trans rfl
                                      have hfz38_0 := blk_frozen BK101.out 0
                                      have hfz38_1 := blk_frozen BK101.out 1
                                      have hfz38_2 := blk_frozen BK101.out 2
                                      have hfz38_3 := blk_frozen BK101.out 3
                                      go_wp2
                                      go_ret
                                      exact ⟨by first | rfl | (simp [errW_none, errW_some] <;> rfl) | (simp only [← hji2]; first | rfl | (simp [errW_none, errW_some] <;> rfl)) | (simp [*, errW_none, errW_some] <;> rfl), by repeat (first | (with_reducible first | exact HB.out | apply below_alloc | apply pw_below_drewN | apply below_drew1 | refine below_set ?_ GE101.out) | exact HB.out)⟩
                              · rw [if_neg c32] at H
                                have c32b0 : (a0_0 == 27) = false := beq_eq_false_iff_ne.mpr c32
                                have c32b1 : (a0_0 != 27) = true := bne_iff_ne.mpr c32
                                obtain rfl := Option.some.inj H
                                go_wp2
                                go_ret
                                exact ⟨by first | rfl | (simp [errW_none, errW_some] <;> rfl) | (simp only [← hji2]; first | rfl | (simp [errW_none, errW_some] <;> rfl)) | (simp [*, errW_none, errW_some] <;> rfl), by repeat (first | (with_reducible first | exact HB.out | apply below_alloc | apply pw_below_drewN | apply below_drew1 | refine below_set ?_ GE101.out) | exact HB.out)⟩
end Go.Proofs.YtfkfgjmhcfagkaaDoor.Print
end
