/- Plain facts on what the scanner answers: what stands between tokens, what a token scanned alone is. No condition. -/
import Derived.Test.YtmingnhhmaclaaaGivenS
namespace Go.Proofs.Ytmingnhhmaclaaa.Given
open Go.RowKit Go.Proofs.YtmingnhhmaclaaaW.PrintWords Go.Proofs.Ytmingnhhmaclaaa.Print

/-! ### blanks and remarks -/
def isBl (c : Int) : Bool := c == 32 || (c == 9 || (c == 10 || c == 13))
def passedGo : Bool → List Int → Bool
  | _, [] => true
  | r, c :: cs => if (!(r || c == 35) && !(isBl c)) = true then false else passedGo (if c == 10 then false else (r || c == 35)) cs
def endRem : Bool → List Int → Bool
  | r, [] => r
  | r, c :: cs => endRem (if c == 10 then false else (r || c == 35)) cs
theorem passedGo_append : ∀ (x y : List Int) (r : Bool), passedGo r (x ++ y) = (passedGo r x && passedGo (endRem r x) y)
  | [], y, r => by simp [passedGo, endRem]
  | c :: x, y, r => by
    simp only [List.cons_append, passedGo, endRem]
    split
    · rfl
    · exact passedGo_append x y _
theorem endRem_append : ∀ (x y : List Int) (r : Bool), endRem r (x ++ y) = endRem (endRem r x) y
  | [], y, r => rfl
  | c :: x, y, r => by
    simp only [List.cons_append, endRem]
    exact endRem_append x y _
theorem passed_remark : ∀ (x : List Int), (∀ c ∈ x, c ≠ 10) → passedGo true x = true ∧ endRem true x = true
  | [], _ => ⟨rfl, rfl⟩
  | c :: x, h => by
    have hc : (c == 10) = false := beq_eq_false_iff_ne.2 (h c (by simp))
    have := passed_remark x (fun d hd => h d (by simp [hd]))
    simpa [passedGo, endRem, hc] using this
theorem isBl_blank (c : Int) : isBl c = isBlank c := by
  unfold isBl isBlank
  cases (c == 32) <;> cases (c == 9) <;> cases (c == 10) <;> cases (c == 13) <;> rfl

/-- From a to b the source has blanks and remarks alone; a remark that is open at b ends there. -/
def Gap (l : List Int) (a b : Nat) : Prop :=
  a ≤ b ∧ b ≤ l.length ∧ passedGo false ((l.take b).drop a) = true ∧ (endRem false ((l.take b).drop a) = true → b = l.length ∨ rd l b = 10)
theorem Gap.refl (l : List Int) (a : Nat) (h : a ≤ l.length) : Gap l a a := by
  refine ⟨Nat.le_refl _, h, ?_, ?_⟩ <;> simp [passedGo, endRem]
theorem seg_snoc (l : List Int) (a b n : Nat) (hab : a ≤ b) (hb : b + n ≤ l.length) : (l.take (b + n)).drop a = (l.take b).drop a ++ (l.drop b).take n := by
  rw [List.take_add, List.drop_append_of_le_length (by rw [List.length_take]; omega)]
theorem take_one (l : List Int) (b : Nat) (h : b < l.length) : (l.drop b).take 1 = [rd l b] := by
  rw [List.drop_eq_getElem_cons h, List.take_succ_cons, List.take_zero]
  simp [rd, List.getElem?_eq_getElem h]
theorem Gap.blank {l : List Int} {a b : Nat} (h : Gap l a b) (hb : b < l.length) (hc : isBlank (rd l b) = true) : Gap l a (b + 1) := by
  obtain ⟨h1, h2, h3, h4⟩ := h
  have hs := seg_snoc l a b 1 h1 (by omega)
  rw [take_one l b hb] at hs
  have hbl : isBl (rd l b) = true := by rw [isBl_blank]; exact hc
  have h35 : (rd l b == 35) = false := by
    apply beq_eq_false_iff_ne.2
    intro e
    rw [e] at hc
    simp [isBlank] at hc
  refine ⟨by omega, by omega, ?_, ?_⟩
  · rw [hs, passedGo_append, h3]
    simp [passedGo, hbl]
  · rw [hs, endRem_append]
    intro he
    cases hr : endRem false ((l.take b).drop a) with
    | false =>
      rw [hr] at he
      simp [endRem, h35] at he
    | true =>
      rcases h4 hr with h | h
      · omega
      · rw [hr, h] at he
        simp [endRem] at he
theorem Gap.remark {l : List Int} {a b : Nat} (h : Gap l a b) (hb : b < l.length) (hc : rd l b = 35) : Gap l a (b + runLen 24 (l.drop b)) := by
  obtain ⟨h1, h2, h3, h4⟩ := h
  have hn := runLen_le 24 (l.drop b)
  rw [List.length_drop] at hn
  obtain ⟨n, hN⟩ : ∃ n, n = runLen 24 (l.drop b) := ⟨_, rfl⟩
  rw [← hN] at hn ⊢
  have hs := seg_snoc l a b n h1 (by omega)
  have hr : endRem false ((l.take b).drop a) = false := by
    cases hr : endRem false ((l.take b).drop a) with
    | false => rfl
    | true =>
      rcases h4 hr with h | h
      · omega
      · rw [hc] at h; omega
  have ht : (l.drop b).take n = (l.drop b).takeWhile (predOf 24) := by
    rw [hN, runLen]
    exact (List.prefix_iff_eq_take.1 (List.takeWhile_prefix _)).symm
  have hall : ∀ c ∈ (l.drop b).take n, c ≠ 10 := by
    intro c hcm e
    rw [ht] at hcm
    have := List.all_takeWhile (p := predOf 24) (l := l.drop b)
    rw [List.all_eq_true] at this
    have h5 := this c hcm
    rw [e] at h5
    simp [predOf, notLine] at h5
  obtain ⟨m, hm⟩ : ∃ m, n = m + 1 := ⟨n - 1, by
    have := runLen_pos 24 (l.drop b) (by rw [List.length_drop]; omega) (by
      have e : rd (l.drop b) 0 = rd l b := by simp [rd]
      rw [e, hc]; rfl)
    omega⟩
  have hcons : (l.drop b).take n = 35 :: (l.drop (b + 1)).take m := by
    rw [hm, List.drop_eq_getElem_cons (by omega), List.take_succ_cons]
    congr 1
    have : rd l b = l[b] := by simp [rd, List.getElem?_eq_getElem hb]
    rw [← this, hc]
  have hrest := passed_remark ((l.drop (b + 1)).take m) (fun c hcm => hall c (by rw [hcons]; exact List.mem_cons_of_mem _ hcm))
  refine ⟨by omega, by omega, ?_, fun _ => ?_⟩
  · rw [hs, passedGo_append, h3, hr, hcons]
    simpa [passedGo] using hrest.1
  · by_cases hl : b + n = l.length
    · exact .inl hl
    · refine .inr ?_
      have h6 : predOf 24 (rd (l.drop b) n) = false := by
        have hlt : n < (l.drop b).length := by rw [List.length_drop]; omega
        have h7 : (l.drop b).dropWhile (predOf 24) = (l.drop b).drop n := by
          have h8 := List.takeWhile_append_dropWhile (p := predOf 24) (l := l.drop b)
          rw [← ht] at h8
          have h9 := List.take_append_drop n (l.drop b)
          exact List.append_cancel_left (h8.trans h9.symm)
        have h10 : ((l.drop b).drop n).head? = some (rd (l.drop b) n) := by
          rw [List.drop_eq_getElem_cons hlt]
          have : rd (l.drop b) n = (l.drop b)[n] := by simp [rd, List.getElem?_eq_getElem (show b + n < l.length by omega)]
          simp [this]
        rw [← h7] at h10
        have h11 := List.head?_dropWhile_not (predOf 24) (l.drop b)
        rw [h10] at h11
        simpa using h11
      have h12 : rd (l.drop b) n = rd l ((b + n : Nat) : Int) := by
          unfold rd
          rw [Int.toNat_natCast, Int.toNat_natCast]
          simp
      rw [h12] at h6
      simpa [predOf, notLine] using h6
end Go.Proofs.Ytmingnhhmaclaaa.Given
