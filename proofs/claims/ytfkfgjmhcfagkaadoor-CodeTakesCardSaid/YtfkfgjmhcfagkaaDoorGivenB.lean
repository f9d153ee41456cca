/- The contract of code.line: a line of a word and numbers. What it asks: the library's tables lie as they were laid; the line is not longer than a Go string may be. -/
import Derived.Test.YtfkfgjmhcfagkaaDoorGivenA
import Derived.Test.YtfkfgjmhcfagkaaDoorShelf
import Derived.Lib.AppendIntMem
import Derived.OpenShut
namespace Go.Proofs.YtfkfgjmhcfagkaaDoor.Given
open Go.RowKit Go.Proofs.YtfkfgjmhcfagkaaDoorW.PrintWords
set_option linter.unusedVariables false
set_option linter.unusedSimpArgs false

/-- The library's variables lie as they were laid. -/
def LW (w : World) : Prop := Lib.TabIs Tryd.prog w "internal/strconv.uint64pow10" IntKind.u64 Lib.pow10Tab ∧ (∃ m, w.cell? ⟨0, 0, none⟩ = some (.int .i64 m)) ∧
  (∃ ev, w.cell? ⟨2, 0, none⟩ = some ev ∧ (ev = Value.nilIface ∨ ∃ te pe, ev = Value.iface te pe)) ∧ ∃ ev, w.cell? ⟨3, 0, none⟩ = some ev ∧ (ev = Value.nilIface ∨ ∃ te pe, ev = Value.iface te pe)
theorem LW.below {w w' : World} (h : LW w) (hb : Below w.heap.size w w') : LW w' := by
  obtain ⟨h1, ⟨m, h2⟩, ⟨e, h3, h3'⟩, ⟨e', h4, h4'⟩⟩ := h
  exact ⟨Lib.tabBelow_of_tabIs h1 w' hb, ⟨m, pw_cell_below hb h2⟩, ⟨e, pw_cell_below hb h3, h3'⟩, ⟨e', pw_cell_below hb h4, h4'⟩⟩
theorem below_grow (w : World) (k : Nat) (os : Array Obj) : Below w.heap.size w («Sort».grow (w.drewN k) os) :=
  ⟨rfl, rfl, rfl, by simp [«Sort».grow, World.drewN], fun j hj => by simp only [«Sort».grow]; exact Array.getElem?_append_left (by simpa [World.drewN] using hj)⟩
def itoaB (n : Int) : ByteArray := ⟨(Lib.itoa n).toArray⟩
theorem itoa_any (n : Int) (h : -9223372036854775808 ≤ n ∧ n ≤ 9223372036854775807) (w : World) (hL : LW w) : Calls Tryd.prog 54 #[.int .i64 n] w fun e w' => e = .returned (.string (itoaB n)) ∧ Below w.heap.size w w' := by
  refine (Tryd.strconv_Itoa n h.1 h.2 w hL.1).mono ?_
  rintro e w' ⟨rfl, k, os, rfl⟩
  exact ⟨rfl, below_grow w k os⟩
def wordsOf (word : ByteArray) (ns : List Int) : ByteArray := ns.foldl (fun acc n => acc ++ (⟨#[32]⟩ ++ itoaB n)) word
def lineOf (word : ByteArray) (ns : List Int) : ByteArray := wordsOf word ns ++ ⟨#[10]⟩
theorem wordsOf_snoc (word : ByteArray) (ns : List Int) (n : Int) : wordsOf word (ns ++ [n]) = wordsOf word ns ++ (⟨#[32]⟩ ++ itoaB n) := by simp [wordsOf]

theorem size_append (a b : ByteArray) : (a ++ b).size = a.size + b.size := ByteArray.size_append
theorem wordsOf_size (word : ByteArray) (a b : List Int) : (wordsOf word a).size ≤ (wordsOf word (a ++ b)).size := by
  have key : ∀ (b : List Int) (x : ByteArray), x.size ≤ (wordsOf x b).size := by
    intro b
    induction b with
    | nil => intro x; exact Nat.le_refl _
    | cons n b ih =>
      intro x
      refine Nat.le_trans ?_ (ih (x ++ (⟨#[32]⟩ ++ itoaB n)))
      rw [size_append]
      omega
  have : wordsOf word (a ++ b) = wordsOf (wordsOf word a) b := by simp [wordsOf]
  rw [this]
  exact key b _
set_option maxHeartbeats 1000000 in
theorem line_any (A : Option Addr) (c : Nat) (l : List Int) (word : ByteArray) (w : World) (hr : Kd.C (Kd.int .i64) w A l.length l) (hw : ∀ n ∈ l, (Lit.int .i64 n).wf = true) (hL : LW w) (hsz : (wordsOf word l).size + 1 ≤ 9223372036854775807) :
    Calls Tryd.prog 37 #[.string word, .slice A l.length c] w fun e w' => e = .returned (.string (lineOf word l)) ∧ Below w.heap.size w w' := by
  have hm := hr.2.1
  have HR := Aside0.mk hr
  have HL := Aside0.mk hL
  have HW := Aside0.mk hw
  clear hr hL hw
  go_enter Tryd.func37, Tryd.ntmps37
  go_wp2
  go_loopw [0, 9] (fun s i wr => ∃ k : Nat, i = .int .i64 k ∧ k ≤ l.length ∧ s = .string (wordsOf word (l.take k)) ∧ Aside0 (Below w.heap.size w wr)) (fun _ i _ => l.length - (intOf i).toNat)
  case atStart => exact ⟨0, rfl, by omega, rfl, ⟨Below.refl _ _⟩⟩
  case round =>
    obtain ⟨k, rfl, hk, rfl, HB⟩ := hrel
    by_cases hlt : k < l.length
    · obtain ⟨ad, rfl, x0⟩ := Kd.at_int HR.out (k : Int) (by omega) (by omega)
      rw [Int.toNat_natCast] at x0
      replace x0 := pw_cell_below HB.out x0
      have hn : l[k]? = some l[k] := List.getElem?_eq_getElem hlt
      have hrd : rd l (k : Int) = l[k] := by simp [rd, hn]
      rw [hrd] at x0
      obtain ⟨n, hnn⟩ : ∃ n, n = l[k] := ⟨_, rfl⟩
      rw [← hnn] at x0
      have HS : Aside0 (wordsOf word (l.take (k + 1)) = wordsOf word (l.take k) ++ (⟨#[32]⟩ ++ itoaB n)) := ⟨by rw [List.take_succ_eq_append_getElem hlt, wordsOf_snoc, hnn]⟩
      have HN : Aside0 (-9223372036854775808 ≤ n ∧ n ≤ 9223372036854775807) := ⟨Go.bounds_i64 (HW.out n (hnn ▸ List.getElem_mem hlt))⟩
      have hs2 : (wordsOf word (l.take k)).size + (1 + (itoaB n).size) ≤ 9223372036854775807 := by
        have h := wordsOf_size word (l.take (k + 1)) (l.drop (k + 1))
        rw [List.take_append_drop, HS.out, size_append, size_append] at h
        have h1 : (⟨#[32]⟩ : ByteArray).size = 1 := rfl
        rw [h1] at h
        omega
      clear hn hrd hnn
      go_wp2_with (go_at_call 54; refine (itoa_any n HN.out _ (HL.out.below HB.out)).mono ?_; rintro e w2 ⟨rfl, hb2⟩; have HB2 := Aside0.mk (below_then HB.out HB.out.size hb2); clear hb2)
      go_roundw
      case rel => exact ⟨k + 1, by go_num, by omega, by rw [HS.out], HB2⟩
      case measure => simp [intOf]; omega
    · obtain rfl : k = l.length := by omega
      go_wp2
      go_ret
      exact ⟨by rw [List.take_length]; rfl, HB.out⟩
end Go.Proofs.YtfkfgjmhcfagkaaDoor.Given
