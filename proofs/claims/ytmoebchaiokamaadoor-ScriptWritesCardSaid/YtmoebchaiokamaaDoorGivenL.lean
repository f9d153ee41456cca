/- script.reads at any line; errors.As by what it leaves; strings.Cut at a line's end. -/
import Derived.Test.YtmoebchaiokamaaDoorGivenK1
import Derived.Test.YtmoebchaiokamaaDoorGivenK2
import Derived.Test.YtmoebchaiokamaaDoorGivenK3
import Derived.Test.YtmoebchaiokamaaDoorGivenK4
namespace Go.Proofs.YtmoebchaiokamaaDoor.Given
open Go.RowKit Go.Proofs.YtmoebchaiokamaaDoorW.PrintWords Go.Proofs.YtmoebchaiokamaaDoorW.PrintLast Go.Proofs.YtmoebchaiokamaaDoorW.PrintMore Go.Proofs.YtmoebchaiokamaaDoor.Print
set_option linter.unusedVariables false
set_option linter.unusedSimpArgs false
theorem kindW_cases (t : List UInt8) : t = wStep ∨ t = wIn ∨ t = wOut ∨ t = wProbe ∨ kindW t = none := by
  unfold kindW
  by_cases h1 : t = wStep
  · exact .inl h1
  · by_cases h2 : t = wIn
    · exact .inr (.inl h2)
    · by_cases h3 : t = wOut
      · exact .inr (.inr (.inl h3))
      · by_cases h4 : t = wProbe
        · exact .inr (.inr (.inr (.inl h4)))
        · rw [if_neg h1, if_neg h2, if_neg h3, if_neg h4]
          exact .inr (.inr (.inr (.inr rfl)))
theorem reads_any (i : Nat) (hi : i ≤ 4611686018427387904) (g : Nat) (s : Scr) (v : Value) (l : ByteArray) (w w0 : World)
    (hL : LW w0) (hB0 : Below w0.heap.size w0 w) (hg0 : w0.heap.size ≤ g) (hg : w.heap[g]? = some (.cells (scC s.lim s.reap v) 26 (0, 0))) (hp : Kd.R k29 29 w (g + 1) (fun _ => True) v s.picks) (hs : l.size < 4294967281) :
    Calls Tryd.prog 19 #[.pointer (some ⟨g, 0, none⟩), .int .i64 i, .string l] w (ReadsSays w g (readsOf i s l)) := by
  obtain ⟨t, r, hw⟩ : ∃ t r, wordsL l = t :: r := by
    have hwl := words_length l _ rfl
    rcases h : wordsL l with _ | ⟨t, r⟩
    · rw [h] at hwl; simp at hwl
    · exact ⟨t, r, rfl⟩
  unfold readsOf
  rw [hw]
  show Calls _ _ _ _ (ReadsSays w g (readsW i s t.toList r))
  by_cases h0 : i = 0
  · subst h0
    by_cases hq : t.toList = wLimits
    · exact reads_0 g s v l w w0 t r hL hB0 hg0 hg hp hs hw hq
    · exact reads_0n g s v l w w0 t r hL hB0 hg0 hg hp hs hw hq
  by_cases h1 : i = 1
  · subst h1
    by_cases hk : t.toList = wKeep
    · exact reads_1k g s v l w w0 t r hL hB0 hg0 hg hp hs hw hk
    · by_cases hr : t.toList = wReap
      · exact reads_1r g s v l w w0 t r hL hB0 hg0 hg hp hs hw hr
      · exact reads_1n g s v l w w0 t r hL hB0 hg0 hg hp hs hw (fun h => h.elim hk hr)
  have h2 : 2 ≤ i := by omega
  rcases kindW_cases t.toList with hq | hq | hq | hq | hq
  · by_cases hm : 4096 ≤ s.picks.length
    · exact reads_many_step i h2 hi g s v l w w0 t r hL hB0 hg0 hg hp hs hw hq hm
    · cases htk : takeOf 1 r with
      | none => exact reads_bad_step i h2 hi g s v l w w0 t r hL hB0 hg0 hg hp hs hw hq hm htk
      | some ns => exact reads_ok_step i h2 hi g s v l w w0 t r hL hB0 hg0 hg hp hs hw hq hm ns htk
  · by_cases hm : 4096 ≤ s.picks.length
    · exact reads_many_in i h2 hi g s v l w w0 t r hL hB0 hg0 hg hp hs hw hq hm
    · cases htk : takeOf 2 r with
      | none => exact reads_bad_in i h2 hi g s v l w w0 t r hL hB0 hg0 hg hp hs hw hq hm htk
      | some ns => exact reads_ok_in i h2 hi g s v l w w0 t r hL hB0 hg0 hg hp hs hw hq hm ns htk
  · by_cases hm : 4096 ≤ s.picks.length
    · exact reads_many_out i h2 hi g s v l w w0 t r hL hB0 hg0 hg hp hs hw hq hm
    · cases htk : takeOf 1 r with
      | none => exact reads_bad_out i h2 hi g s v l w w0 t r hL hB0 hg0 hg hp hs hw hq hm htk
      | some ns => exact reads_ok_out i h2 hi g s v l w w0 t r hL hB0 hg0 hg hp hs hw hq hm ns htk
  · by_cases hm : 4096 ≤ s.picks.length
    · exact reads_many_probe i h2 hi g s v l w w0 t r hL hB0 hg0 hg hp hs hw hq hm
    · cases htk : takeOf 0 r with
      | none => exact reads_bad_probe i h2 hi g s v l w w0 t r hL hB0 hg0 hg hp hs hw hq hm htk
      | some ns => exact reads_ok_probe i h2 hi g s v l w w0 t r hL hB0 hg0 hg hp hs hw hq hm ns htk
  · exact reads_none i h2 hi g s v l w w0 t r hL hB0 hg0 hg hp hs hw hq
/-! ### errors.As -/
theorem as_blk (gt a : Nat) (old : Value) (w : World) (hL : LW w) (hb : w.heap[gt]? = some (.cells #[old] 58 (0, 0))) :
    Calls Tryd.prog 20 #[.iface 58 (.pointer (some ⟨a, 0, none⟩)), .iface 60 (.pointer (some ⟨gt, 0, none⟩))] w fun ev w' => ev = .returned (.bool true) ∧ w'.heap[gt]? = some (.cells #[.pointer (some ⟨a, 0, none⟩)] 58 (0, 0)) ∧ Fr w.heap.size gt w w' := by
  refine (as_hit ⟨a, 0, none⟩ ⟨gt, 0, none⟩ old w hL.2.2.2.2 ((blk_cell hb 0).trans rfl) (blk_frozen hb 0)).mono ?_
  rintro ev w' ⟨rfl, rfl⟩
  refine ⟨rfl, ?_, ?_⟩
  · refine blk_put (cs := #[old]) ?_ 0 _ rfl
    exact blk_below hb (below_alloc (below_alloc (below_alloc (bel1 w _) _) _) _)
  · exact fr_set (Fr.of_below (below_alloc (below_alloc (below_alloc (bel1 w _) _) _) _)) 0 _
/-! ### strings.Cut at a line's end -/
def lineCut : List UInt8 → Option (List UInt8 × List UInt8)
  | [] => none
  | c :: l => if c = 10 then some ([], l) else (lineCut l).map fun p => (c :: p.1, p.2)
theorem index_cut : ∀ (l : List UInt8), (Lib.indexByte l 10 = -1 ∧ lineCut l = none) ∨ ∃ n : Nat, Lib.indexByte l 10 = n ∧ lineCut l = some (l.take n, l.drop (n + 1))
  | [] => .inl ⟨rfl, rfl⟩
  | c :: l => by
    unfold Lib.indexByte lineCut
    by_cases h : c = 10
    · subst h
      exact .inr ⟨0, by simp, by simp⟩
    · have hb : (c == 10) = false := beq_eq_false_iff_ne.2 h
      rw [if_neg h]
      simp only [hb]
      rcases index_cut l with ⟨h1, h2⟩ | ⟨n, h1, h2⟩
      · rw [h1, h2]
        exact .inl ⟨by simp, rfl⟩
      · rw [h1, h2]
        refine .inr ⟨n + 1, ?_, rfl⟩
        have : ((n : Int) == -1) = false := beq_eq_false_iff_ne.2 (by omega)
        simp [this]
theorem cut_line (l : List UInt8) : Lib.cut l [10] = match lineCut l with
    | some p => (p.1, p.2, true)
    | none => (l, [], false) := by
  unfold Lib.cut
  rw [Lib.index_one]
  rcases index_cut l with ⟨h1, h2⟩ | ⟨n, h1, h2⟩
  · rw [h1, h2]
    rfl
  · rw [h1, h2, if_pos (by omega)]
    rfl
def mkB (l : List UInt8) : ByteArray := ⟨l.toArray⟩
theorem mkB_list (l : List UInt8) : (mkB l).data.toList = l := by simp [mkB]
theorem mkB_size (l : List UInt8) : (mkB l).size = l.length := by simp [mkB, ByteArray.size]
theorem cut_any (l : List UInt8) (w : World) (hL : LW w) (hs : l.length < 4294967281) :
    Calls Tryd.prog 17 #[.string (mkB l), .string ⟨#[10]⟩] w fun e w' => e = .returned (match lineCut l with
      | some p => .tuple #[.string (mkB p.1), .string (mkB p.2), .bool true]
      | none => .tuple #[.string (mkB l), .string (mkB []), .bool false]) ∧ Below w.heap.size w w' := by
  obtain ⟨m, hm⟩ := hL.2.1
  refine (Tryd.strings_Cut (mkB l) ⟨#[10]⟩ m w (by rw [mkB_size]; exact hs) hm).mono ?_
  rintro e w' ⟨rfl, n, rfl⟩
  refine ⟨?_, pw_below_drewN (Below.refl _ _) n⟩
  rw [show (⟨#[10]⟩ : ByteArray).data.toList = [10] from rfl, mkB_list, cut_line]
  cases lineCut l <;> rfl
theorem lineCut_len {l a b : List UInt8} (h : lineCut l = some (a, b)) : a.length + b.length + 1 = l.length := by
  rcases index_cut l with ⟨_, h2⟩ | ⟨n, h1, h2⟩
  · rw [h2] at h; cases h
  · rw [h2] at h
    injection h with h
    injection h with ha hb
    subst ha hb
    have : ∀ (l : List UInt8) (n : Nat), Lib.indexByte l 10 = n → n < l.length := by
      intro l
      induction l with
      | nil => intro n hn; simp [Lib.indexByte] at hn
      | cons c l ih =>
        intro n hn
        unfold Lib.indexByte at hn
        by_cases hc : c = 10
        · subst hc
          simp at hn
          simp
          omega
        · have hb : (c == 10) = false := beq_eq_false_iff_ne.2 hc
          simp only [hb] at hn
          rcases index_cut l with ⟨h3, _⟩ | ⟨k, h3, _⟩
          · rw [h3] at hn
            simp at hn
          · rw [h3] at hn
            have : ((k : Int) == -1) = false := beq_eq_false_iff_ne.2 (by omega)
            simp [this] at hn
            have := ih k h3
            simp
            omega
    have := this l n h1
    rw [List.length_take, List.length_drop]
    omega
end Go.Proofs.YtmoebchaiokamaaDoor.Given
