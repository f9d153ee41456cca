import Derived.Test.YtmingnhhmaclaaaGivenF
namespace Go.Proofs.Ytmingnhhmaclaaa.Given
open Go.RowKit Go.Proofs.YtmingnhhmaclaaaW.PrintWords

/-! ### what a token's length may be; blank -/
theorem runLen_pos (F : Nat) (l : List Int) (h0 : 0 < l.length) (h : predOf F (rd l 0) = true) : 1 ≤ runLen F l := by
  cases l with
  | nil => simp at h0
  | cons x l =>
    unfold runLen
    rw [List.takeWhile_cons_of_pos (by simpa [rd] using h)]
    simp
theorem wordOf_len (l : List Int) (h0 : 0 < l.length) (hl : isLetter (rd l 0) = true) (h : (wordOf l).2.2.2.2 = 0) : ∃ n : Nat, (wordOf l).2.2.1 = n ∧ 1 ≤ n ∧ n ≤ l.length := by
  have h1 := runLen_pos 39 l h0 (by simp [predOf, hl])
  have h2 := runLen_le 39 l
  unfold wordOf at h ⊢
  split
  · split
    · rename_i a b; rw [if_pos a, if_pos b] at h; simp at h
    · exact ⟨_, rfl, h1, h2⟩
  · exact ⟨_, rfl, h1, h2⟩
theorem numberOf_len (l : List Int) (h0 : 0 < l.length) (hl : isDigit (rd l 0) = true) (h : (numberOf l).2.2.2.2 = 0) : ∃ n : Nat, (numberOf l).2.2.1 = n ∧ 1 ≤ n ∧ n ≤ l.length := by
  have h1 := runLen_pos 36 l h0 (by simp [predOf, hl])
  have h2 := runLen_le 36 l
  unfold numberOf at h ⊢
  split
  · rename_i a; rw [if_pos a] at h; simp at h
  · rename_i a
    rw [if_neg a] at h
    cases hf : numFold (l.take (runLen 36 l)) 0 with
    | none => rw [hf] at h; simp at h
    | some v => exact ⟨_, rfl, h1, h2⟩
theorem signFind_len (l : List Int) : ∀ n : Nat, (signFind l n).2.2.2.2 = 0 → ∃ m : Nat, (signFind l n).2.2.1 = m ∧ 1 ≤ m ∧ m ≤ n
  | 0, h => by simp [signFind] at h
  | n + 1, h => by
    unfold signFind at h ⊢
    split
    · rename_i a
      rw [if_pos a] at h
      obtain ⟨m, h1, h2, h3⟩ := signFind_len l n h
      exact ⟨m, h1, h2, by omega⟩
    · exact ⟨n + 1, rfl, by omega, by omega⟩
theorem tokenOf_len (l : List Int) (h0 : 0 < l.length) (h : (tokenOf l).2.2.2.2 = 0) : ∃ n : Nat, (tokenOf l).2.2.1 = n ∧ 1 ≤ n ∧ n ≤ l.length := by
  unfold tokenOf at h ⊢
  split
  · rename_i a; rw [if_pos a] at h; exact wordOf_len l h0 a h
  · rename_i a
    rw [if_neg a] at h
    split
    · rename_i b; rw [if_pos b] at h; exact numberOf_len l h0 b h
    · rename_i b
      rw [if_neg b] at h
      unfold signOf at h ⊢
      obtain ⟨m, h1, h2, h3⟩ := signFind_len l _ h
      exact ⟨m, h1, h2, by split at h3 <;> omega⟩
def isBlank (c : Int) : Bool := c == 9 || (c == 10 || (c == 13 || c == 32))
set_option maxHeartbeats 400000 in
theorem blank_any (c : Int) (w : World) : Calls Try.prog 22 #[.int .u8 c] w fun e w' => e = .returned (.bool (isBlank c)) ∧ w = w' := by
  by_cases h1 : c = 9
  · have g1 : (c == 9) = true := beq_iff_eq.2 h1
    clear h1
    go_enter Try.func22, Try.ntmps22
    go_wp2
    go_ret
    exact ⟨ret_bool (by simp [isBlank, g1]), rfl⟩
  · have g1 : (c == 9) = false := beq_eq_false_iff_ne.2 h1
    by_cases h2 : c = 10
    · have g2 : (c == 10) = true := beq_iff_eq.2 h2
      clear h2 h1
      go_enter Try.func22, Try.ntmps22
      go_wp2
      go_ret
      exact ⟨ret_bool (by simp [isBlank, g1, g2]), rfl⟩
    · have g2 : (c == 10) = false := beq_eq_false_iff_ne.2 h2
      by_cases h3 : c = 13
      · have g3 : (c == 13) = true := beq_iff_eq.2 h3
        clear h2 h1 h3
        go_enter Try.func22, Try.ntmps22
        go_wp2
        go_ret
        exact ⟨ret_bool (by simp [isBlank, g1, g2, g3]), rfl⟩
      · have g3 : (c == 13) = false := beq_eq_false_iff_ne.2 h3
        clear h2 h1 h3
        go_enter Try.func22, Try.ntmps22
        go_wp2
        go_ret
        exact ⟨ret_bool (by simp [isBlank, g1, g2, g3]), rfl⟩
theorem scan_word.calls (A0 : Option Addr) (c0 : Nat) (l0 : List Int) (r1 : Int) (r2 : Int) (r3 : Int) (r4 : Int) (r5 : Int) (w : World) (hr0 : Kd.C (Kd.int .u8) w A0 l0.length l0) (hc0 : l0.length ≤ c0) (h : scan_word.f l0 = some (r1, r2, r3, r4, r5)) :
    Calls Try.prog 35 #[.slice A0 l0.length c0] w fun e w' => e = .returned (.tuple #[.agg #[.int .i64 r1, .int .i64 r2, .int .i64 r3, .int .i64 r4], .int .i64 r5]) ∧ Below w.heap.size w w' := by
  injection h with h
  have := word_any A0 c0 l0 w hr0 hc0
  rw [h] at this
  exact this
theorem scan_number.calls (A0 : Option Addr) (c0 : Nat) (l0 : List Int) (r1 : Int) (r2 : Int) (r3 : Int) (r4 : Int) (r5 : Int) (w : World) (hr0 : Kd.C (Kd.int .u8) w A0 l0.length l0) (hc0 : l0.length ≤ c0) (h : scan_number.f l0 = some (r1, r2, r3, r4, r5)) :
    Calls Try.prog 37 #[.slice A0 l0.length c0] w fun e w' => e = .returned (.tuple #[.agg #[.int .i64 r1, .int .i64 r2, .int .i64 r3, .int .i64 r4], .int .i64 r5]) ∧ Below w.heap.size w w' := by
  injection h with h
  have := number_any A0 c0 l0 w hr0 hc0
  rw [h] at this
  exact this
theorem scan_sign.calls (A0 : Option Addr) (c0 : Nat) (l0 : List Int) (r1 : Int) (r2 : Int) (r3 : Int) (r4 : Int) (r5 : Int) (w : World) (hr0 : Kd.C (Kd.int .u8) w A0 l0.length l0) (hc0 : l0.length ≤ c0) (h : scan_sign.f l0 = some (r1, r2, r3, r4, r5)) :
    Calls Try.prog 38 #[.slice A0 l0.length c0] w fun e w' => e = .returned (.tuple #[.agg #[.int .i64 r1, .int .i64 r2, .int .i64 r3, .int .i64 r4], .int .i64 r5]) ∧ Below w.heap.size w w' := by
  injection h with h
  have := sign_any A0 c0 l0 w hr0 hc0
  rw [h] at this
  exact this
def scan_token.f (l0 : List Int) : Option (Int × Int × Int × Int × Int) := if 0 < l0.length then some (tokenOf l0) else none
theorem scan_token.calls (A0 : Option Addr) (c0 : Nat) (l0 : List Int) (r1 : Int) (r2 : Int) (r3 : Int) (r4 : Int) (r5 : Int) (w : World) (hr0 : Kd.C (Kd.int .u8) w A0 l0.length l0) (hc0 : l0.length ≤ c0) (h : scan_token.f l0 = some (r1, r2, r3, r4, r5)) :
    Calls Try.prog 25 #[.slice A0 l0.length c0] w fun e w' => e = .returned (.tuple #[.agg #[.int .i64 r1, .int .i64 r2, .int .i64 r3, .int .i64 r4], .int .i64 r5]) ∧ Below w.heap.size w w' := by
  unfold scan_token.f at h
  split at h
  · injection h with h
    have := token_any A0 c0 l0 w hr0 hc0 (by assumption)
    rw [h] at this
    exact this
  · cases h
end Go.Proofs.Ytmingnhhmaclaaa.Given
