/- The reference's Scan is scanAll. -/
import Derived.Test.YtmingnhhmaclaaaPlainD
import Derived.Test.YtmingnhhmaclaaaPlainC
namespace Go.Proofs.Ytmingnhhmaclaaa.Given
open Go.RowKit Go.Proofs.YtmingnhhmaclaaaW.PrintWords Go.Proofs.Ytmingnhhmaclaaa.Print
set_option linter.unusedVariables false
set_option linter.unusedSimpArgs false

theorem text_head : ∀ k : Fin 40, (textOf (k.1 : Int)).toList.head?.all (fun c => isLetter (c.toNat : Int)) = true := by decide +kernel
/-- A text that does not begin with a letter is a sign's, if it is any kind's. -/
theorem kind_sign (x : List Int) (n : Nat) (hx : 0 < x.length) (hn : 0 < n) (hb : 0 ≤ rd x 0 ∧ rd x 0 < 256) (hl : isLetter (rd x 0) = false) : kindOf (strOfNums (x.take n)) = 0 ∨ 40 ≤ kindOf (strOfNums (x.take n)) := by
  by_cases h0 : kindOf (strOfNums (x.take n)) = 0
  · exact Or.inl h0
  · right
    apply Classical.byContradiction
    intro h40
    have ht := Pure.kindOf_text _ h0
    obtain ⟨k, hk, hk2⟩ := kindOf_le (strOfNums (x.take n))
    rw [hk] at ht h40
    obtain ⟨c, y, rfl⟩ : ∃ c y, x = c :: y := by
      cases x with
      | nil => simp at hx
      | cons c y => exact ⟨c, y, rfl⟩
    obtain ⟨m, rfl⟩ : ∃ m, n = m + 1 := ⟨n - 1, by omega⟩
    have hh := text_head ⟨k, by omega⟩
    have ht2 : (textOf ((⟨k, by omega⟩ : Fin 40).1 : Int)).toList = (strOfNums ((c :: y).take (m + 1))).toList := ht
    rw [ht2, ByteArray.toList_eq, strOfNums_data, List.take_succ_cons, List.map_cons, List.head?_cons] at hh
    have hc : rd (c :: y) 0 = c := rfl
    rw [hc] at hb hl
    have e : (((UInt8.ofNat c.toNat).toNat : Nat) : Int) = c := by
      have : (UInt8.ofNat c.toNat).toNat = c.toNat % 256 := UInt8.toNat_ofNat'
      rw [this]
      omega
    have h2 : isLetter (((UInt8.ofNat c.toNat).toNat : Nat) : Int) = true := hh
    rw [e, hl] at h2
    cases h2
/-- The reference's token is the program's, at its place. -/
def TokRel (R t : Int × Int × Int × Int × Int) (b : Nat) : Prop := R.2.2.2.2 = t.2.2.2.2 ∧ (t.2.2.2.2 = 0 → R = (t.1, (b : Int), t.2.2.1, t.2.2.2.1, 0))
theorem word_rel (l : List Int) (b : Nat) : TokRel (wordR l b) (wordOf (l.drop b)) b := by
  unfold wordR wordOf TokRel
  by_cases h0 : kindOf (strOfNums ((l.drop b).take (runLen 39 (l.drop b)))) = 0
  · rw [if_pos h0, if_pos h0]
    by_cases h32 : 32 < runLen 39 (l.drop b)
    · rw [if_pos h32, if_pos h32]
      exact ⟨rfl, fun h => by cases h⟩
    · rw [if_neg h32, if_neg h32]
      exact ⟨rfl, fun _ => rfl⟩
  · rw [if_neg h0, if_neg h0]
    exact ⟨rfl, fun _ => rfl⟩
theorem num_rel (x : List Int) (b : Nat) : TokRel (numR x b) (numberOf x) b := by
  unfold numR numberOf TokRel
  by_cases h0 : numBad x = true
  · rw [if_pos h0, if_pos h0]
    exact ⟨rfl, fun h => by cases h⟩
  · rw [if_neg h0, if_neg h0]
    cases numFold (x.take (runLen 36 x)) 0 with
    | none => exact ⟨rfl, fun h => by cases h⟩
    | some v => exact ⟨rfl, fun _ => rfl⟩
theorem sign_rel (l : List Int) (b : Nat) (hx : 0 < (l.drop b).length) (hb : 0 ≤ rd (l.drop b) 0 ∧ rd (l.drop b) 0 < 256) (hl : isLetter (rd (l.drop b) 0) = false) : ∀ n : Nat, TokRel (signR l b n) (signFind (l.drop b) (if (l.drop b).length < n then (l.drop b).length else n)) b
  | 0 => by
    rw [if_neg (by omega)]
    exact ⟨rfl, fun h => by cases h⟩
  | n + 1 => by
    have ih := sign_rel l b hx hb hl n
    have hlen : (l.drop b).length = l.length - b := List.length_drop
    rw [signR]
    by_cases hfit : b + (n + 1) ≤ l.length
    · rw [if_pos hfit, if_neg (show ¬ (l.drop b).length < n + 1 by omega)]
      rw [if_neg (show ¬ (l.drop b).length < n by omega)] at ih
      rcases kind_sign (l.drop b) (n + 1) hx (by omega) hb hl with h0 | h40
      · rw [if_neg (by omega), signFind_no (l.drop b) (n + 1) _ (by omega) rfl h0]
        exact ih
      · rw [if_pos h40, signFind_yes (l.drop b) (n + 1) _ (by omega) rfl (by omega)]
        exact ⟨rfl, fun _ => rfl⟩
    · rw [if_neg hfit]
      have e : (if (l.drop b).length < n + 1 then (l.drop b).length else n + 1) = (if (l.drop b).length < n then (l.drop b).length else n) := by split <;> split <;> omega
      rw [e]
      exact ih
theorem skip_remark (l : List Int) (acc : List S40) (b q : Nat) (hl : l.length ≤ 65536) (hb : b ≤ l.length) : ∀ (d j : Nat), j + d = runLen 24 (l.drop b) →
    squintref01_Scan.l1 (q + d + 1) l acc ((b + j : Nat) : Int) = squintref01_Scan.l0 q l acc ((b + runLen 24 (l.drop b) : Nat) : Int) := by
  have hle := runLen_le 24 (l.drop b)
  rw [List.length_drop] at hle
  intro d
  induction d with
  | zero =>
    intro j hj
    have hj' : j = runLen 24 (l.drop b) := by omega
    rw [Nat.add_zero, squintref01_Scan.l1, hj']
    by_cases hlt : b + runLen 24 (l.drop b) < l.length
    · have hp := runLen_at 24 (l.drop b) (runLen 24 (l.drop b)) (Nat.le_refl _) (by rw [List.length_drop]; omega)
      rw [decide_eq_false (Nat.lt_irrefl _), rd_drop_at] at hp
      have h10 : rd l ((b + runLen 24 (l.drop b) : Nat) : Int) = 10 := by
        have hp2 : notLine (rd l ((b + runLen 24 (l.drop b) : Nat) : Int)) = false := hp
        simpa [notLine] using hp2
      rw [if_pos (by omega), if_pos (by omega), if_pos h10]
    · rw [if_neg (by omega)]
  | succ d ih =>
    intro j hj
    have hlt : b + j < l.length := by omega
    have hp := runLen_at 24 (l.drop b) j (by omega) (by rw [List.length_drop]; omega)
    rw [decide_eq_true (by omega), rd_drop_at] at hp
    have h10 : ¬ rd l ((b + j : Nat) : Int) = 10 := by
      have hp2 : notLine (rd l ((b + j : Nat) : Int)) = true := hp
      simpa [notLine] using hp2
    rw [show q + (d + 1) + 1 = (q + d + 1) + 1 by omega, squintref01_Scan.l1, if_pos (by omega), if_pos (by omega), if_neg h10, show wrap64 (((b + j : Nat) : Int) + 1) = ((b + (j + 1) : Nat) : Int) by simp only [wrap64]; omega]
    exact ih (j + 1) (by omega)
/-- The bytes are bytes. -/
def Bytes (l : List Int) : Prop := ∀ c ∈ l, 0 ≤ c ∧ c < 256
theorem ref_scan_go (l : List Int) (hl : l.length ≤ 65536) (hby : Bytes l) : ∀ (m b : Nat) (acc : List S40) (k : Nat), l.length - b < m → b ≤ l.length → acc.length ≤ b → 3 * (l.length - b) + 5 + 2 * l.length ≤ k → squintref01_Scan.l0 k l acc (b : Int) = some (scanGo l m b acc) := by
  intro m
  induction m with
  | zero => intro b acc k h; omega
  | succ m ih =>
    intro b acc k hm hb hac hk
    obtain ⟨q, rfl⟩ : ∃ q, k = q + 1 := ⟨k - 1, by omega⟩
    rw [squintref01_Scan.l0, scanGo]
    by_cases hlt : b < l.length
    · have hx0 : rd (l.drop b) 0 = rd l (b : Int) := rd_drop_at l b 0
      have hxl : (l.drop b).length = l.length - b := List.length_drop
      rw [if_pos (by omega), if_pos (by omega), if_pos hlt, blank_eq, Option.bind_some]
      by_cases hbl : isBlank (rd l b) = true
      · rw [if_pos hbl, if_pos hbl, show wrap64 ((b : Int) + 1) = ((b + 1 : Nat) : Int) by simp only [wrap64]; omega]
        exact ih (b + 1) acc q (by omega) (by omega) (by omega) (by omega)
      · rw [if_neg hbl, if_neg hbl]
        by_cases h35 : rd l b = 35
        · rw [if_pos h35, if_pos h35]
          have hle := runLen_le 24 (l.drop b)
          have hpos := runLen_pos 24 (l.drop b) (by omega) (by rw [hx0, h35]; rfl)
          have hs := skip_remark l acc b (q - runLen 24 (l.drop b) - 1) hl hb (runLen 24 (l.drop b)) 0 (Nat.zero_add _)
          rw [show q - runLen 24 (l.drop b) - 1 + runLen 24 (l.drop b) + 1 = q by omega, Nat.add_zero] at hs
          rw [hs]
          exact ih _ acc _ (by omega) (by omega) (by omega) (by omega)
        · rw [if_neg h35, if_neg h35]
          have hbyte : 0 ≤ rd (l.drop b) 0 ∧ rd (l.drop b) 0 < 256 := by
            rw [hx0]
            have : rd l (b : Int) = l[b] := by simp [rd, hlt]
            rw [this]
            exact hby _ (List.getElem_mem hlt)
          have key : ∀ R : Int × Int × Int × Int × Int, TokRel R (tokenOf (l.drop b)) b →
              (if R.2.2.2.2 = 0 then (if acc.length < 4398046511104 then (squintref01_Scan.l0 q l (acc ++ [(⟨R.1, R.2.1, R.2.2.1, R.2.2.2.1⟩ : S40)]) (wrap64 ((b : Int) + R.2.2.1))) else none) else (some (([] : List S40), (b : Int), R.2.2.2.2))) =
              some (if (tokenOf (l.drop b)).2.2.2.2 = 0 then scanGo l m (b + (tokenOf (l.drop b)).2.2.1.toNat) (acc ++ [⟨(tokenOf (l.drop b)).1, b, (tokenOf (l.drop b)).2.2.1, (tokenOf (l.drop b)).2.2.2.1⟩]) else ([], (b : Int), (tokenOf (l.drop b)).2.2.2.2)) := by
            rintro R ⟨h5, hR⟩
            rw [h5]
            by_cases h0 : (tokenOf (l.drop b)).2.2.2.2 = 0
            · rw [if_pos h0, if_pos h0, if_pos (by omega), hR h0]
              obtain ⟨n, hn, hn1, hn2⟩ := tokenOf_len (l.drop b) (by omega) h0
              rw [hn, show wrap64 ((b : Int) + (n : Int)) = ((b + n : Nat) : Int) by simp only [wrap64]; omega, Int.toNat_natCast]
              exact ih (b + n) _ q (by omega) (by omega) (by rw [List.length_append]; simp; omega) (by omega)
            · rw [if_neg h0, if_neg h0]
          have hbb : (0 : Int) ≤ (b : Int) ∧ (b : Int) ≤ (l.length : Int) ∧ l.length ≤ 4294967296 := by omega
          rw [letter_eq, Option.bind_some]
          by_cases hlet : isLetter (rd l b) = true
          · have ht : tokenOf (l.drop b) = wordOf (l.drop b) := by unfold tokenOf; rw [hx0, if_pos hlet]
            rw [if_pos hlet, squintref01_word.f, if_pos hbb, Option.bind_some, Int.toNat_natCast]
            exact key _ (by rw [ht]; exact word_rel l b)
          · rw [if_neg hlet, digit_eq, Option.bind_some]
            by_cases hdig : isDigit (rd l b) = true
            · have ht : tokenOf (l.drop b) = numberOf (l.drop b) := by unfold tokenOf; rw [hx0, if_neg hlet, if_pos hdig]
              have hpos := runLen_pos 36 (l.drop b) (by omega) (by rw [hx0]; exact hdig)
              rw [if_pos hdig, ref_num l b hl hpos q (by omega), Option.bind_some]
              exact key _ (by rw [ht]; exact num_rel (l.drop b) b)
            · have ht : tokenOf (l.drop b) = signOf (l.drop b) := by unfold tokenOf; rw [hx0, if_neg hlet, if_neg hdig]
              rw [if_neg hdig, squintref01_sign.f, if_pos hbb, Option.bind_some, Int.toNat_natCast]
              exact key _ (by rw [ht]; exact sign_rel l b (by omega) hbyte (by rw [hx0]; simpa using hlet) 3)
    · rw [if_neg (by omega), if_neg hlt]
theorem ref_scan (l : List Int) (hby : Bytes l) : ∃ k, squintref01_Scan.f k l = some (scanAll l) := by
  unfold scanAll
  by_cases hl : l.length > 65536
  · refine ⟨0, ?_⟩
    unfold squintref01_Scan.f
    rw [if_pos (by omega), if_pos hl]
  · refine ⟨5 * l.length + 5, ?_⟩
    unfold squintref01_Scan.f
    rw [if_neg (by omega), if_neg hl]
    exact ref_scan_go l (by omega) hby (l.length + 1) 0 [] _ (by omega) (by omega) (by simp) (by omega)
end Go.Proofs.Ytmingnhhmaclaaa.Given
