/- What came in, read by its kind: from the row's reading of an argument to the kinds' reading of its cells, with the bounds that the row's weights give. -/
import Derived.Test.YtmoebchaiokamaaDoorWWords
import Derived.Deep.Slices
import Derived.ChangeArms
import Derived.DataReads
import Derived.SizedLaws
namespace Go.Proofs.YtmoebchaiokamaaDoor.Opens
open Go.RowKit Go.Proofs.YtmoebchaiokamaaDoorW.PrintWords

/-- Whatever reads as a value of type t is of the kind d, and meets wf. -/
def Opens {α : Type} (P : Program) (W : World) (t : TypeId) (d : Kd α) (wf : α → Prop) : Prop :=
  ∀ (H : Type) (enc : TypeId × Value → H) (base : Nat) (sp : Nat → Bool) (held : Bool) (fuel : Nat) (cs : List Value) (x : DataW H × List MemPlace),
    DataW.trod enc P W base sp held fuel t cs = some x → (∀ k, k ∈ x.1.weights P t → k ≤ reachBytes) → ∃ a, d.K W a cs ∧ wf a
variable {P : Program} {W : World} {t e : TypeId}
theorem opens_int {k : IntKind} (ht : P.underlying t = some (.int k)) : Opens P W t (Kd.int k) (fun n => (Lit.int k n).wf = true) := by
  intro H enc base sp held fuel cs x h hw
  obtain ⟨n, rfl, rfl, hn⟩ := DataW.trod_int ht h
  exact ⟨n, rfl, hn⟩
theorem opens_bool (ht : P.underlying t = some .bool) : Opens P W t Kd.bool (fun _ => True) := by
  intro H enc base sp held fuel cs x h hw
  obtain ⟨b, rfl, rfl⟩ := DataW.trod_bool ht h
  exact ⟨b, rfl, trivial⟩
theorem opens_string (ht : P.underlying t = some .string) : Opens P W t Kd.string (fun s => s.size ≤ 140737488351232) := by
  intro H enc base sp held fuel cs x h hw
  obtain ⟨s, rfl, rfl, hs⟩ := DataW.trod_string ht h
  refine ⟨s, rfl, ?_⟩
  have := hw s.data.toList.length (by simp [DataW.weights])
  rw [Array.length_toList] at this
  exact this
theorem mem_weightsAll {H : Type} {P : Program} {e : TypeId} {d : DataW H} {k : Nat} : ∀ {l : List (DataW H)}, d ∈ l → k ∈ d.weights P e → k ∈ DataW.weightsAll P e l
  | [], h, _ => by cases h
  | a :: l, h, hk => by
    unfold DataW.weightsAll
    rcases List.mem_cons.1 h with rfl | h
    · exact List.mem_append_left _ hk
    · exact List.mem_append_right _ (mem_weightsAll h hk)
theorem exists_list {α : Type} {p : Nat → α → Prop} : ∀ (n : Nat), (∀ i, i < n → ∃ a, p i a) → ∃ l : List α, l.length = n ∧ ∀ i a, l[i]? = some a → p i a
  | 0, _ => ⟨[], rfl, fun i a h => by simp at h⟩
  | n + 1, h => by
    obtain ⟨l, hl, hp⟩ := exists_list n (fun i hi => h i (Nat.lt_succ_of_lt hi))
    obtain ⟨a, ha⟩ := h n (Nat.lt_succ_self n)
    refine ⟨l ++ [a], by simp [hl], fun i b hb => ?_⟩
    by_cases hi : i < l.length
    · rw [List.getElem?_append_left hi] at hb
      exact hp i b hb
    · rw [List.getElem?_append_right (by omega)] at hb
      have hi2 : i - l.length = 0 := by
        cases hq : i - l.length with
        | zero => rfl
        | succ m => rw [hq] at hb; simp at hb
      rw [hi2] at hb
      injection hb with hb
      subst hb
      have : i = n := by omega
      subst this
      exact ha
theorem opens_slice {α : Type} {d : Kd α} {wf : α → Prop} {bytes : Nat} (ht : P.underlying t = some (.slice e)) (hc : P.cellsOf e = d.sz) (hb : P.bytesOf e = bytes) (he : Opens P W e d wf) :
    Opens P W t (Kd.slice e d) (fun xs => (∀ x ∈ xs, wf x) ∧ xs.length * bytes ≤ 140737488351232) := by
  intro H enc base sp held fuel cs x h hw
  rcases Deep.open_slice ht h with ⟨rfl, rfl⟩ | ⟨a, len, cap, m, n, D, Pl, rfl, hba, hl, hm, hmm, rfl, hel⟩
  · exact ⟨[], ⟨none, 0, rfl, Nat.le_refl _, Kd.C_nil _ _⟩, fun x hx => (by cases hx), by simp⟩
  have hlm : len ≤ m := by rw [hmm]; split <;> omega
  have hW : ∀ i, i < len → ∀ k, k ∈ (D i).weights P e → k ≤ reachBytes := by
    intro i hi k hk
    refine hw k ?_
    unfold DataW.weights
    rw [ht]
    refine List.mem_cons_of_mem _ (List.mem_append_left _ ?_)
    exact mem_weightsAll (List.mem_map.2 ⟨i, List.mem_range.2 hi, rfl⟩) hk
  obtain ⟨xs, hxl, hxs⟩ := exists_list (p := fun i (a' : α) => wf a' ∧ ∃ cs', W.cells? base (a.add (i * P.cellsOf e)) (P.cellsOf e) = some cs' ∧ d.K W a' cs') len (fun i hi => by
    obtain ⟨cs', h1, h2⟩ := hel i (by omega)
    obtain ⟨a', hk, hwf⟩ := he H enc base sp held n cs' _ h2 (hW i hi)
    exact ⟨a', hwf, cs', h1, hk⟩)
  refine ⟨xs, ⟨some a, cap, by rw [hxl], by rw [hxl]; exact hl, ?_⟩, fun x hx => ?_, ?_⟩
  · refine ⟨rfl, ?_, fun _ => ⟨a, rfl, fun j p hj => ?_⟩⟩
    · rw [hxl]
      exact Nat.le_trans hl (Nat.le_trans hm (by decide))
    · obtain ⟨_, cs', h1, hk⟩ := hxs j p hj
      refine ⟨cs', d.K_len hk, hk, fun i u hu => ?_⟩
      obtain ⟨_, hlen, hcell⟩ := World.cells?_some h1
      rw [hc] at hcell hlen
      have hi : i < cs'.length := (List.getElem?_eq_some_iff.1 hu).1
      have := hcell i (by omega)
      rw [Deep.add_add] at this
      rw [this, hu]
  · obtain ⟨i, hi⟩ := List.mem_iff_getElem?.1 hx
    exact (hxs i x hi).1
  · have := hw ((((List.range len).map D).length + ((List.range (m - len)).map fun j => D (len + j)).length) * P.bytesOf e) (by
      unfold DataW.weights
      rw [ht]
      exact List.mem_cons_self)
    simp only [List.length_map, List.length_range] at this
    rw [hb] at this
    rw [hxl]
    exact Nat.le_trans (Nat.mul_le_mul_right _ (by omega)) this
end Go.Proofs.YtmoebchaiokamaaDoor.Opens
