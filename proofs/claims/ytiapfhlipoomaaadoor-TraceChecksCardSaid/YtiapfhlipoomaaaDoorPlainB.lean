/- What fill and one compute, as plain functions; what stays of a world but one block. -/
import Derived.Test.YtiapfhlipoomaaaDoorGivenH
import Derived.Test.YtiapfhlipoomaaaDoorPrint4
namespace Go.Proofs.YtiapfhlipoomaaaDoor.Given
open Go.RowKit Go.Proofs.YtiapfhlipoomaaaDoorW.PrintWords Go.Proofs.YtiapfhlipoomaaaDoorW.PrintLast Go.Proofs.YtiapfhlipoomaaaDoorW.PrintMore Go.Proofs.YtiapfhlipoomaaaDoor.Print
set_option linter.unusedVariables false
set_option linter.unusedSimpArgs false

def fillNums : List Nat → List ByteArray → S24 → Option (S24 × List ByteArray)
  | [], ws, x => some (x, ws)
  | _ :: _, [], _ => none
  | o :: r, t :: ws, x => match numOf t with
    | some n => fillNums r ws (setK x n o)
    | none => none
/-- A word's place in a list, -1 if there is none. -/
def idxB : List ByteArray → ByteArray → Nat → Int
  | [], _, _ => -1
  | a :: l, t, k => if t.toList = a.toList then (k : Int) else idxB l t (k + 1)
def fillWord (k : Nat) (p : S24 × List ByteArray) : Option (S24 × List ByteArray) :=
  if clsK k = 2 then match p.2 with
    | [] => none
    | t :: r => if t.toList = [] then none else some (setK p.1 (idxB (wsK k) t 0) 6, r)
  else some p
def fillRest (p : S24 × List ByteArray) : Option S24 := (numsIn p.2).bind fun l =>
  if okX ⟨p.1.f0, p.1.f1, p.1.f2, p.1.f3, p.1.f4, p.1.f5, p.1.f6, l⟩ = true then some ⟨p.1.f0, p.1.f1, p.1.f2, p.1.f3, p.1.f4, p.1.f5, p.1.f6, l⟩ else none
/-- An event of a kind out of a line's words behind the first one. -/
def fillOf (k : Nat) (ws : List ByteArray) : Option S24 := ((fillNums (atK k) ws ⟨k, 0, 0, 0, 0, 0, 0, []⟩).bind (fillWord k)).bind fillRest
theorem at_le (k o : Nat) (h : o ∈ atK k) : 1 ≤ o ∧ o ≤ 6 := by
  unfold atK at h
  rcases List.mem_append.1 h with h | h
  · exact fo_le k o h
  · split at h
    · simp only [List.mem_singleton] at h; omega
    · cases h
theorem at_len (k : Nat) : (atK k).length ≤ 6 := by
  unfold atK
  have := fo_len k
  rw [List.length_append]
  split <;> simp <;> omega
/-! ### slices.Index -/
theorem index_from (l : List ByteArray) (t : ByteArray) (hs : l.length ≤ 7) : ∀ (m k : Nat), k + m = l.length → slices_Index_string_string.l0 (m + 1) l t (l.length : Int) (k : Int) = some (idxB (l.drop k) t k)
  | 0, k, h => by
    unfold slices_Index_string_string.l0
    rw [if_neg (by omega), List.drop_of_length_le (by omega)]
    rfl
  | m + 1, k, h => by
    unfold slices_Index_string_string.l0
    have ha : k < l.length := by omega
    rw [if_pos (by omega), if_pos (by omega), if_pos (by omega), wrap_small _ (by omega) (by omega)]
    have ra : rdOf ByteArray.empty l (k : Int) = l[k] := by simp [rdOf, ha]
    rw [ra, List.drop_eq_getElem_cons ha]
    by_cases he : t.toList = l[k].toList
    · rw [if_pos he, idxB, if_pos he]
    · rw [if_neg he, idxB, if_neg he]
      have := index_from l t hs m (k + 1) (by omega)
      rwa [show ((k : Int) + 1) = ((k + 1 : Nat) : Int) by omega]
theorem index_says (l : List ByteArray) (t : ByteArray) (hs : l.length ≤ 7) : slices_Index_string_string.f (l.length + 1) l t = some (idxB l t 0) := by
  unfold slices_Index_string_string.f
  have := index_from l t hs l.length 0 (by omega)
  simpa using this
theorem index_any (b : Nat) (l : List ByteArray) (t : ByteArray) (w : World) (hs : l.length ≤ 7) (h : w.heap[b]? = some (.cells (l.map Value.string).toArray 9 (0, 0))) :
    Calls Tryd.prog 59 #[.slice (some ⟨b, 0, none⟩) l.length l.length, .string t] w fun e w' => e = .returned (.int .i64 (idxB l t 0)) ∧ Drawn0 w w' := by
  refine slices_Index_string_string.calls (l.length + 1) _ _ l t _ w ?_ (Nat.le_refl _) (index_says l t hs)
  refine Kd.C_of_reads (enc := Value.string) (d := ByteArray.empty) (h1 := fun _ => rfl) ⟨rfl, by omega, fun _ => ⟨_, rfl, fun j hj => ?_⟩⟩
  have e2 : (⟨b, 0, none⟩ : Addr).add j = ⟨b, j, none⟩ := by simp [Addr.add]; exact Eq.symm
  rw [e2, blk_cell h j]
  simp [hj]
/-! ### words in memory -/
def WordsIn (w : World) (g : Nat) (A : Option Addr) (ws : List ByteArray) : Prop := (∀ ad, A = some ad → ad.block ≠ g) ∧ ∀ (j : Nat) t, ws[j]? = some t → ∃ ad, A = some ad ∧ w.cell? (ad.add j) = some (.string t)
theorem WordsIn.below {w w' : World} {g : Nat} {A : Option Addr} {ws : List ByteArray} (h : WordsIn w g A ws) (hb : Below w.heap.size w w') : WordsIn w' g A ws := ⟨h.1, fun j t hj => by
  obtain ⟨ad, ha, hc⟩ := h.2 j t hj
  exact ⟨ad, ha, pw_cell_below hb hc⟩⟩
theorem add_one_add (ad : Addr) (j : Nat) : (ad.add 1).add j = ad.add (1 + j) := by
  by_cases hj : j = 0
  · subst hj
    rfl
  · simp [Addr.add, hj, Nat.add_assoc]
/-- The slice behind the first word. -/
theorem words_tail {w : World} {A : Option Addr} {t : ByteArray} {r : List ByteArray} {g : Nat} (h : WordsIn w g A (t :: r)) (c : Nat) (hc : r.length + 1 ≤ c) :
    ∃ A1, (∀ W : World, (Instr.slice 46 (.slice A (r.length + 1) c) (some (.int .i64 1)) none none).run Tryd.prog W = .ok (.slice A1 r.length (c - 1)) W) ∧ WordsIn w g A1 r := by
  obtain ⟨i0, hi0, _, hsz, _⟩ := info_parts info9
  have h0 := cut_from (P := Tryd.prog) 46 9 .i64 Tryd.underlying46 hi0 1 hsz A (r.length + 1) c 1 (by omega) (by omega)
  refine ⟨if c = 1 then A else A.map (·.add 1), fun W => by simpa using h0 W, fun ad had => ?_, fun j s hj => ?_⟩
  · split at had
    · exact h.1 ad had
    · obtain ⟨ad0, h1, rfl⟩ := Option.map_eq_some_iff.1 had
      rw [add_block]
      exact h.1 ad0 h1
  have hj2 := (List.getElem?_eq_some_iff.1 hj).1
  rw [if_neg (by omega)]
  obtain ⟨ad, ha, hcell⟩ := h.2 (1 + j) s (by rw [Nat.add_comm]; exact hj)
  subst ha
  exact ⟨_, rfl, by rw [add_one_add]; exact hcell⟩
theorem WordsIn.fr {base g : Nat} {w w' : World} {A : Option Addr} {ws : List ByteArray} (h : WordsIn w g A ws) (hf : Fr base g w w') (hb : w.heap.size ≤ base) : WordsIn w' g A ws := ⟨h.1, fun j t hj => by
  obtain ⟨ad, ha, hc⟩ := h.2 j t hj
  exact ⟨ad, ha, hf.cell hc hb (by rw [add_block]; exact h.1 ad ha)⟩⟩
end Go.Proofs.YtiapfhlipoomaaaDoor.Given
