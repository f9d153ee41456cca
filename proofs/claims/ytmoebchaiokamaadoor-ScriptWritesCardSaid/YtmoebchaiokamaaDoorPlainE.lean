/- Words and numbers, there and back: plain lists of bytes. -/
import Derived.Test.YtmoebchaiokamaaDoorGivenO
import Derived.Lib.IndexMore
import Derived.Lib.CountLaws
namespace Go.Proofs.YtmoebchaiokamaaDoor.Given
open Go.RowKit Go.Proofs.YtmoebchaiokamaaDoorW.PrintWords Go.Proofs.YtmoebchaiokamaaDoorW.PrintLast Go.Proofs.YtmoebchaiokamaaDoorW.PrintMore Go.Proofs.YtmoebchaiokamaaDoor.Print
set_option linter.unusedVariables false
set_option linter.unusedSimpArgs false

/-! ### a number as text, read again -/
theorem dec_digit (d : Nat) (h : d < 10) : (UInt8.ofNat (48 + d)).toNat = 48 + d := by
  rw [UInt8.toNat_ofNat_of_lt' (by show 48 + d < 256; omega)]
theorem parse_dec : ∀ (u : Nat) (r : List UInt8), u < 18446744073709551616 → Lib.parseUint10 0 (Lib.decDigits u ++ r) = Lib.parseUint10 u r := by
  intro u
  induction u using Nat.strongRecOn with
  | ind u ih =>
    intro r hu
    rw [Lib.decDigits]
    by_cases h : u < 10
    · rw [dif_pos h, List.singleton_append, Lib.parseUint10, dec_digit u h, if_pos (by omega), if_neg (by omega), if_neg (by omega)]
      congr 1
      omega
    · rw [dif_neg h, List.append_assoc, ih (u / 10) (by omega) _ (by omega), List.singleton_append, Lib.parseUint10, dec_digit _ (by omega), if_pos (by omega), if_neg (by omega), if_neg (by omega)]
      congr 1
      omega
theorem dec_ne : ∀ (u : Nat), Lib.decDigits u ≠ [] := by
  intro u
  rw [Lib.decDigits]
  split
  · simp
  · simp
theorem dec_bytes : ∀ (u : Nat) (b : UInt8), b ∈ Lib.decDigits u → 48 ≤ b.toNat ∧ b.toNat ≤ 57 := by
  intro u
  induction u using Nat.strongRecOn with
  | ind u ih =>
    intro b hb
    rw [Lib.decDigits] at hb
    by_cases h : u < 10
    · rw [dif_pos h, List.mem_singleton] at hb
      subst hb
      rw [dec_digit u h]
      omega
    · rw [dif_neg h, List.mem_append, List.mem_singleton] at hb
      rcases hb with hb | rfl
      · exact ih (u / 10) (by omega) b hb
      · rw [dec_digit _ (by omega)]
        omega
theorem mag_dec (u : Nat) (hu : u < 18446744073709551616) : Lib.parseMag (Lib.decDigits u) = .ok u := by
  unfold Lib.parseMag
  rw [if_neg (dec_ne u)]
  have := parse_dec u [] hu
  rw [List.append_nil] at this
  rw [this]
  rfl
theorem atoi_itoa (n : Int) (h : -9223372036854775808 ≤ n ∧ n ≤ 9223372036854775807) : Lib.atoiAll (Lib.itoa n) = .ok n := by
  unfold Lib.itoa
  by_cases hn : n < 0
  · rw [if_pos hn]
    unfold Lib.atoiAll
    simp only [show (45 : UInt8).toNat = 45 from rfl, or_true, if_true, not_true, false_and, if_false, true_and]
    rw [mag_dec _ (by omega)]
    simp only
    rw [if_neg (by omega)]
    congr 1
    omega
  · rw [if_neg hn]
    have hm := mag_dec n.toNat (by omega)
    have hb := dec_bytes n.toNat
    cases hd : Lib.decDigits n.toNat with
    | nil => exact absurd hd (dec_ne _)
    | cons c r =>
      rw [hd] at hm hb
      have hc := hb c (by simp)
      unfold Lib.atoiAll
      simp only
      rw [if_neg (by omega), hm]
      simp only
      rw [if_neg (by omega), if_neg (by omega), if_neg (by omega)]
      congr 1
      omega
theorem itoa_bytes (n : Int) (b : UInt8) (hb : b ∈ Lib.itoa n) : b ≠ 32 ∧ b ≠ 10 := by
  unfold Lib.itoa at hb
  have key : 45 ≤ b.toNat := by
    split at hb
    · rcases List.mem_cons.1 hb with rfl | hb
      · decide
      · have := (dec_bytes _ b hb).1
        omega
    · have := (dec_bytes _ b hb).1
      omega
  constructor
  · rintro rfl
    exact absurd key (by decide)
  · rintro rfl
    exact absurd key (by decide)
theorem num_itoa (n : Int) (h : -9223372036854775808 ≤ n ∧ n ≤ 9223372036854775807) : numOf (itoaB n) = some n := by
  unfold numOf
  have e : (itoaB n).data.toList = Lib.itoa n := by simp [itoaB]
  rw [e, atoi_itoa n h]
  simp
/-! ### an index of one byte -/
theorem idx_hit (c : UInt8) (b : List UInt8) : ∀ (a : List UInt8), c ∉ a → Lib.index (a ++ c :: b) [c] = a.length
  | [], _ => by simp [Lib.index, List.isPrefixOf]
  | x :: a, h => by
    have hx : c ≠ x := fun e => h (by simp [e])
    have ih := idx_hit c b a (fun hm => h (by simp [hm]))
    rw [List.cons_append, Lib.index, ih]
    have hp : ([c] : List UInt8).isPrefixOf (x :: (a ++ c :: b)) = false := by simp [List.isPrefixOf, hx]
    rw [if_neg (by rw [hp]; decide)]
    rw [if_neg (by simp)]
    simp
theorem idx_miss (c : UInt8) : ∀ (a : List UInt8), c ∉ a → Lib.index a [c] = -1
  | [], _ => by simp [Lib.index]
  | x :: a, h => by
    have hx : c ≠ x := fun e => h (by simp [e])
    have ih := idx_miss c a (fun hm => h (by simp [hm]))
    rw [Lib.index, ih]
    have hp : ([c] : List UInt8).isPrefixOf (x :: a) = false := by simp [List.isPrefixOf, hx]
    rw [if_neg (by rw [hp]; decide)]
    rfl
theorem mem_split (c : UInt8) : ∀ (l : List UInt8), c ∉ l ∨ ∃ a b, l = a ++ c :: b ∧ c ∉ a
  | [] => .inl (by simp)
  | x :: l => by
    by_cases hx : x = c
    · exact .inr ⟨[], l, by rw [hx]; rfl, by simp⟩
    · rcases mem_split c l with h | ⟨a, b, rfl, h⟩
      · exact .inl (by simp [h, Ne.symm hx])
      · exact .inr ⟨x :: a, b, rfl, by simp [h, Ne.symm hx]⟩
/-! ### words with blanks between them -/
def joinS (w : List UInt8) (ws : List (List UInt8)) : List UInt8 := w ++ ws.flatMap (fun x => 32 :: x)
theorem join_decomp : ∀ (l : List UInt8), ∃ w ws, l = joinS w ws ∧ (32 : UInt8) ∉ w ∧ ∀ x ∈ ws, (32 : UInt8) ∉ x
  | [] => ⟨[], [], rfl, by simp, by simp⟩
  | c :: l => by
    obtain ⟨w, ws, rfl, hw, hws⟩ := join_decomp l
    by_cases hc : c = 32
    · subst hc
      exact ⟨[], w :: ws, by simp [joinS], by simp, fun x hx => (List.mem_cons.1 hx).elim (fun e => e ▸ hw) (hws x)⟩
    · exact ⟨c :: w, ws, by simp [joinS], by simp [hw, Ne.symm hc], hws⟩
theorem join_cons (w x : List UInt8) (ws : List (List UInt8)) : joinS w (x :: ws) = w ++ 32 :: joinS x ws := by simp [joinS]
theorem split_join : ∀ (ws : List (List UInt8)) (w : List UInt8), (32 : UInt8) ∉ w → (∀ x ∈ ws, (32 : UInt8) ∉ x) → Lib.splitK [32] 0 ws.length (joinS w ws) = w :: ws
  | [], w, _, _ => by simp [Lib.splitK, joinS]
  | x :: ws, w, hw, hws => by
    have ih := split_join ws x (hws x (by simp)) (fun y hy => hws y (by simp [hy]))
    rw [List.length_cons, Lib.splitK, join_cons, idx_hit 32 _ w hw]
    rw [if_neg (by simp)]
    have e : ((w.length : Int)).toNat = w.length := by omega
    rw [e]
    simp [ih]
theorem count_join : ∀ (ws : List (List UInt8)) (w : List UInt8) (fuel : Nat), (32 : UInt8) ∉ w → (∀ x ∈ ws, (32 : UInt8) ∉ x) → ws.length < fuel → Lib.countFrom [32] fuel (joinS w ws) = ws.length
  | [], w, fuel + 1, hw, _, _ => by
    unfold Lib.countFrom
    have e : joinS w [] = w := by simp [joinS]
    rw [e, idx_miss 32 w hw]
    rfl
  | x :: ws, w, fuel + 1, hw, hws, hf => by
    have ih := count_join ws x fuel (hws x (by simp)) (fun y hy => hws y (by simp [hy])) (by simpa using hf)
    unfold Lib.countFrom
    rw [join_cons, idx_hit 32 _ w hw, if_neg (by simp)]
    have e : ((w.length : Int)).toNat = w.length := by omega
    rw [e]
    have e2 : (w ++ 32 :: joinS x ws).drop (w.length + ([32] : List UInt8).length) = joinS x ws := by simp
    rw [e2, ih, List.length_cons, Nat.add_comm]
theorem join_length (ws : List (List UInt8)) : ∀ (w : List UInt8), ws.length ≤ (joinS w ws).length := by
  induction ws with
  | nil => intro w; simp
  | cons x ws ih =>
    intro w
    rw [join_cons]
    have := ih x
    simp only [List.length_cons, List.length_append]
    omega
theorem words_join (w : List UInt8) (ws : List (List UInt8)) (hw : (32 : UInt8) ∉ w) (hws : ∀ x ∈ ws, (32 : UInt8) ∉ x) : (wordsL ⟨(joinS w ws).toArray⟩).map (fun b => b.data.toList) = w :: ws := by
  unfold wordsL
  have hc : Lib.countB ⟨(joinS w ws).toArray⟩ space = ws.length := by
    show Lib.countFrom [32] ((joinS w ws).toArray.toList.length + 1) (joinS w ws).toArray.toList = ws.length
    rw [List.toList_toArray]
    exact count_join ws w _ hw hws (Nat.lt_succ_of_le (join_length ws w))
  rw [hc]
  have := Lib.splitB_data space 0 ws.length ⟨(joinS w ws).toArray⟩
  rw [show ((⟨(joinS w ws).toArray⟩ : ByteArray).data.toList) = joinS w ws by simp, show space.data.toList = [32] from rfl, split_join ws w hw hws] at this
  exact this
/-! ### a line's word and numbers -/
theorem bytes_ext {a b : ByteArray} (h : a.data.toList = b.data.toList) : a = b := by
  cases a with | mk da => cases b with | mk db =>
  have : da = db := Array.ext' h
  rw [this]
theorem map_ext : ∀ {l l' : List ByteArray}, l.map (fun b => b.data.toList) = l'.map (fun b => b.data.toList) → l = l'
  | [], [], _ => rfl
  | [], _ :: _, h => by simp at h
  | _ :: _, [], h => by simp at h
  | a :: l, b :: l', h => by
    simp only [List.map_cons, List.cons.injEq] at h
    rw [bytes_ext h.1, map_ext h.2]
theorem app_list (a b : ByteArray) : (a ++ b).data.toList = a.data.toList ++ b.data.toList := by simp [ByteArray.data_append]
theorem nums_itoa : ∀ (n : List Int), (∀ x ∈ n, -9223372036854775808 ≤ x ∧ x ≤ 9223372036854775807) → numsIn (n.map itoaB) = some n
  | [], _ => rfl
  | x :: n, h => by
    have ih := nums_itoa n (fun y hy => h y (by simp [hy]))
    rw [List.map_cons, numsIn, num_itoa x (h x (by simp)), ih]
theorem nums_inv : ∀ (l : List ByteArray) (n : List Int), numsIn l = some n → l = n.map itoaB ∧ ∀ x ∈ n, -9223372036854775808 ≤ x ∧ x ≤ 9223372036854775807
  | [], n, h => by
    injection h with h
    subst h
    exact ⟨rfl, by simp⟩
  | t :: r, n, h => by
    unfold numsIn at h
    cases ha : numOf t with
    | none => rw [ha] at h; cases h
    | some v =>
      cases hr : numsIn r with
      | none => rw [ha, hr] at h; cases h
      | some l =>
        rw [ha, hr] at h
        injection h with h
        subst h
        obtain ⟨h1, h2⟩ := nums_inv r l hr
        obtain ⟨h3, h4⟩ := numOf_some ha
        have ht : t = itoaB v := bytes_ext (by rw [← Lib.toList_data, ← Lib.toList_data, h4])
        refine ⟨by rw [List.map_cons, ← h1, ← ht], fun x hx => ?_⟩
        rcases List.mem_cons.1 hx with rfl | hx
        · exact h3
        · exact h2 x hx
end Go.Proofs.YtmoebchaiokamaaDoor.Given
