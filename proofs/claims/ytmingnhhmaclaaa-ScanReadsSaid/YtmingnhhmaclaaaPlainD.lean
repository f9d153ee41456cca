/- The reference's Scan answers as the program's does: the plain law. -/
import Derived.Test.YtmingnhhmaclaaaPrint4
import Derived.Test.YtmingnhhmaclaaaPlainB
namespace Go.Proofs.Ytmingnhhmaclaaa.Given
open Go.RowKit Go.Proofs.YtmingnhhmaclaaaW.PrintWords Go.Proofs.Ytmingnhhmaclaaa.Print
set_option linter.unusedVariables false
set_option linter.unusedSimpArgs false

theorem blank_eq (c : Int) : squintref01_blank.f c = some (isBlank c) := by
  unfold squintref01_blank.f isBlank
  by_cases h1 : c = 9
  · simp [h1]
  · by_cases h2 : c = 10
    · simp [h2]
    · by_cases h3 : c = 13
      · simp [h3]
      · have e1 : (c == 9) = false := beq_eq_false_iff_ne.2 h1
        have e2 : (c == 10) = false := beq_eq_false_iff_ne.2 h2
        have e3 : (c == 13) = false := beq_eq_false_iff_ne.2 h3
        rw [if_neg h1, if_neg h2, if_neg h3, e1, e2, e3]
        rfl
theorem letter_eq (c : Int) : squintref01_letter.f c = some (isLetter c) := by
  unfold squintref01_letter.f isLetter
  by_cases h1 : 97 ≤ c <;> by_cases h2 : c ≤ 122 <;> by_cases h3 : 65 ≤ c <;> by_cases h4 : c ≤ 90 <;> simp [h1, h2, h3, h4] <;> omega
theorem digit_eq (c : Int) : squintref01_digit.f c = some (isDigit c) := by
  unfold squintref01_digit.f isDigit
  by_cases h1 : 48 ≤ c <;> simp [h1] <;> omega
theorem isDigit_iff (c : Int) : isDigit c = true ↔ 48 ≤ c ∧ c ≤ 57 := by simp [isDigit]
theorem rd_drop_at (l : List Int) (b m : Nat) : rd (l.drop b) (m : Nat) = rd l ((b + m : Nat) : Int) := by simp only [rd, Int.toNat_natCast, List.getD_eq_getElem?_getD, List.getElem?_drop]
/-- What the reference's number answers. -/
def numR (x : List Int) (b : Nat) : Int × Int × Int × Int × Int :=
  if numBad x = true then (0, 0, 0, 0, 12) else (numFold (x.take (runLen 36 x)) 0).elim (0, 0, 0, 0, 12) fun v => (2, (b : Int), (runLen 36 x : Nat), v, 0)
theorem num_end (l : List Int) (b m : Nat) (v : Int) (ok : Bool) (hb : b + m ≤ l.length) (hl : l.length ≤ 65536) (hm : m = runLen 36 (l.drop b)) (hm1 : 1 ≤ m) (k : Nat) :
    squintref01_number.j1 (k + 2) l (b : Int) ((b + m : Nat) : Int) v ok false = some (if numBad (l.drop b) = true then (0, 0, 0, 0, 12) else if ok = true then (2, (b : Int), (m : Int), v, 0) else (0, 0, 0, 0, 12)) := by
  have hw : wrap64 (((b + m : Nat) : Int) - (b : Int)) = (m : Int) := by simp only [wrap64]; omega
  have hx0 : rd (l.drop b) 0 = rd l (b : Int) := rd_drop_at l b 0
  have hxm : rd (l.drop b) (m : Nat) = rd l ((b + m : Nat) : Int) := rd_drop_at l b m
  have hj2 : ∀ t : Bool, squintref01_number.j2 (k + 1) (b : Int) ((b + m : Nat) : Int) v ok t = some (if t = true then (0, 0, 0, 0, 12) else if ok = true then (2, (b : Int), (m : Int), v, 0) else (0, 0, 0, 0, 12)) := by
    intro t
    rw [squintref01_number.j2, hw]
    cases t <;> cases ok <;> rfl
  have hlet : (if ((b + m : Nat) : Int) < (l.length : Int) then (if (0 : Int) ≤ ((b + m : Nat) : Int) then ((squintref01_letter.f (rd l ((b + m : Nat) : Int))).bind fun t => squintref01_number.j2 (k + 1) (b : Int) ((b + m : Nat) : Int) v ok t) else none) else squintref01_number.j2 (k + 1) (b : Int) ((b + m : Nat) : Int) v ok false) = some (if (decide (m < (l.drop b).length) && isLetter (rd (l.drop b) (m : Nat))) = true then (0, 0, 0, 0, 12) else if ok = true then (2, (b : Int), (m : Int), v, 0) else (0, 0, 0, 0, 12)) := by
    rw [List.length_drop]
    by_cases h : b + m < l.length
    · rw [if_pos (by omega), if_pos (by omega), letter_eq, Option.bind_some, hj2, hxm, decide_eq_true (by omega), Bool.true_and]
    · rw [if_neg (by omega), hj2, decide_eq_false (by omega), Bool.false_and]
  rw [squintref01_number.j1, if_neg (by decide), hw]
  unfold numBad
  rw [← hm, hx0]
  by_cases h1 : (m : Int) > 1
  · rw [if_pos h1, if_pos (by omega), if_pos (by omega), decide_eq_true (show 1 < m by omega), Bool.true_and]
    by_cases h48 : rd l (b : Int) = 48
    · rw [if_pos h48, hj2, h48]
      rfl
    · rw [if_neg h48, hlet, show (rd l (b : Int) == 48) = false from beq_eq_false_iff_ne.2 h48, Bool.false_or]
  · rw [if_neg h1, hlet, decide_eq_false (show ¬ 1 < m by omega), Bool.false_and, Bool.false_or]
theorem num_step (l : List Int) (b n m : Nat) (hl : l.length ≤ 65536) (hn : n = runLen 36 (l.drop b)) (hm : m < n) : ∃ c, rd l ((b + m : Nat) : Int) = c ∧ 48 ≤ c ∧ c ≤ 57 ∧ b + m < l.length ∧ ((l.drop b).take n).drop m = c :: ((l.drop b).take n).drop (m + 1) := by
  have hle := runLen_le 36 (l.drop b)
  rw [← hn, List.length_drop] at hle
  have hlt : b + m < l.length := by omega
  have hp := runLen_at 36 (l.drop b) m (by omega) (by rw [List.length_drop]; omega)
  rw [← hn, decide_eq_true (by omega), rd_drop_at] at hp
  have hp2 : isDigit (rd l ((b + m : Nat) : Int)) = true := hp
  obtain ⟨c1, c2⟩ := (isDigit_iff _).1 hp2
  refine ⟨_, rfl, c1, c2, hlt, ?_⟩
  rw [List.drop_eq_getElem_cons (by rw [List.length_take, List.length_drop]; omega)]
  congr 1
  rw [List.getElem_take, List.getElem_drop]
  simp only [rd, Int.toNat_natCast, List.getD_eq_getElem?_getD, List.getElem?_eq_getElem hlt, Option.getD_some]
/-- Where the digits end. -/
def numE (x : List Int) (b n : Nat) (ok : Bool) (r : Option Int) : Int × Int × Int × Int × Int :=
  if numBad x = true then (0, 0, 0, 0, 12) else if ok = true then r.elim (0, 0, 0, 0, 12) (fun v => (2, (b : Int), (n : Int), v, 0)) else (0, 0, 0, 0, 12)
theorem numE_none (x : List Int) (b n : Nat) (ok : Bool) : numE x b n ok none = numE x b n false none := by
  unfold numE
  cases ok <;> simp
theorem numE_false (x : List Int) (b n : Nat) (r : Option Int) : numE x b n false r = numE x b n false none := by
  unfold numE
  simp
theorem numE_some (x : List Int) (b n : Nat) (ok : Bool) (v : Int) : numE x b n ok (some v) = (if numBad x = true then (0, 0, 0, 0, 12) else if ok = true then (2, (b : Int), (n : Int), v, 0) else (0, 0, 0, 0, 12)) := by
  unfold numE
  simp
theorem wrap_in (x : Int) (h0 : -9223372036854775808 ≤ x) (h1 : x ≤ 9223372036854775807) : wrap64 x = x := by
  simp only [wrap64]
  omega
theorem num_fits (v c : Int) (h : v ≤ (9223372036854775807 - (c - 48)) / 10) : 10 * v + (c - 48) ≤ 9223372036854775807 := by omega
theorem num_loop (l : List Int) (b n : Nat) (hl : l.length ≤ 65536) (hn : n = runLen 36 (l.drop b)) (hn1 : 1 ≤ n) : ∀ (d m : Nat) (v : Int) (ok : Bool) (k : Nat), m + d = n → (ok = true → 0 ≤ v ∧ v ≤ 9223372036854775807) → 2 * d + 3 ≤ k →
    squintref01_number.l0 k l (b : Int) ((b + m : Nat) : Int) v ok = some (numE (l.drop b) b n ok (numFold (((l.drop b).take n).drop m) v)) := by
  intro d
  induction d with
  | zero =>
    intro m v ok k hmd hv hk
    have hle := runLen_le 36 (l.drop b)
    rw [← hn, List.length_drop] at hle
    obtain ⟨q, rfl⟩ : ∃ q, k = q + 3 := ⟨k - 3, by omega⟩
    obtain rfl : m = n := by omega
    have hfold : numFold (((l.drop b).take m).drop m) v = some v := by
      rw [List.drop_eq_nil_of_le (by rw [List.length_take]; omega)]
      rfl
    have hend := num_end l b m v ok (by omega) hl hn hn1 q
    rw [hfold, numE_some, ← hend, show q + 3 = (q + 2) + 1 by omega, squintref01_number.l0]
    by_cases hlt : b + m < l.length
    · have hp := runLen_at 36 (l.drop b) m (by omega) (by rw [List.length_drop]; omega)
      rw [← hn, decide_eq_false (by omega), rd_drop_at] at hp
      have hp2 : isDigit (rd l ((b + m : Nat) : Int)) = false := hp
      rw [if_pos (by omega), if_pos (by omega), digit_eq, hp2, Option.bind_some]
    · rw [if_neg (by omega)]
  | succ d ih =>
    intro m v ok k hmd hv hk
    obtain ⟨q, rfl⟩ : ∃ q, k = q + 2 := ⟨k - 2, by omega⟩
    obtain ⟨c, hc, c1, c2, hlt, hdrop⟩ := num_step l b n m hl hn (by omega)
    have i1 : ((b + m : Nat) : Int) < (l.length : Int) := by omega
    have i2 : (0 : Int) ≤ ((b + m : Nat) : Int) := by omega
    have hdig : isDigit c = true := (isDigit_iff c).2 ⟨c1, c2⟩
    have hmod : (c - 48) % 256 = c - 48 := by omega
    have hwi : wrap64 (((b + m : Nat) : Int) + 1) = ((b + (m + 1) : Nat) : Int) := by simp only [wrap64]; omega
    have hfalse : ∀ v', squintref01_number.l0 q l (b : Int) ((b + (m + 1) : Nat) : Int) v' false = some (numE (l.drop b) b n false none) := fun v' => ih (m + 1) v' false q (by omega) (fun h => by cases h) (by omega)
    rw [squintref01_number.l0, if_pos i1, if_pos i2, hc, digit_eq, hdig, Option.bind_some, squintref01_number.j1, if_pos (show (true : Bool) = true from rfl), if_pos i2, if_pos i1, hc, hmod, hwi, hdrop, numFold]
    by_cases hov : v > (9223372036854775807 - (c - 48)) / 10
    · rw [if_pos hov, if_pos hov, hfalse, numE_none _ _ _ ok]
    · rw [if_neg hov, if_neg hov]
      cases ok with
      | false => rw [hfalse, numE_false _ _ _ (numFold _ _)]
      | true =>
        obtain ⟨hv0, hv1⟩ := hv rfl
        clear hmod hwi hdrop hfalse
        have hq : 10 * v + (c - 48) ≤ 9223372036854775807 := num_fits v c (by omega)
        clear hov
        have hw1 : wrap64 (10 * v) = 10 * v := wrap_in _ (by omega) (by omega)
        have hw2 : wrap64 (10 * v + (c - 48)) = 10 * v + (c - 48) := wrap_in _ (by omega) (by omega)
        rw [hw1, hw2]
        exact ih (m + 1) _ true q (by omega) (fun _ => by omega) (by omega)
theorem ref_num (l : List Int) (b : Nat) (hl : l.length ≤ 65536) (hn1 : 1 ≤ runLen 36 (l.drop b)) (k : Nat) (hk : 2 * l.length + 3 ≤ k) : squintref01_number.f k l (b : Int) = some (numR (l.drop b) b) := by
  have hle := runLen_le 36 (l.drop b)
  rw [List.length_drop] at hle
  have h := num_loop l b _ hl rfl hn1 _ 0 0 true k (Nat.zero_add _) (fun _ => by omega) (by omega)
  rw [Nat.add_zero] at h
  unfold squintref01_number.f numR
  rw [h, List.drop_zero]
  unfold numE
  rw [if_pos rfl]
end Go.Proofs.Ytmingnhhmaclaaa.Given
