/- trace.formOf, for all kinds of one sort at once; what a kind has, as plain functions. -/
import Derived.Test.YtiapfhlipoomaaaDoorGivenA
import Derived.Test.YtiapfhlipoomaaaDoorGivenD
namespace Go.Proofs.YtiapfhlipoomaaaDoor.Given
open Go.RowKit Go.Proofs.YtiapfhlipoomaaaDoorW.PrintWords Go.Proofs.YtiapfhlipoomaaaDoorW.PrintLast Go.Proofs.YtiapfhlipoomaaaDoorW.PrintMore Go.Proofs.YtiapfhlipoomaaaDoor.Print
set_option linter.unusedVariables false
set_option linter.unusedSimpArgs false

/-- A kind's word. -/
def wordB : Nat → ByteArray
  | 1 => ⟨#[98, 111, 114, 110]⟩
  | 2 => ⟨#[109, 101, 101, 116]⟩
  | 3 => ⟨#[105, 110]⟩
  | 4 => ⟨#[111, 117, 116]⟩
  | 5 => ⟨#[101, 120, 105, 116]⟩
  | 6 => ⟨#[116, 114, 97, 112]⟩
  | 7 => ⟨#[115, 107, 105, 112]⟩
  | 8 => ⟨#[105, 100, 108, 101]⟩
  | 9 => ⟨#[112, 114, 111, 98, 101]⟩
  | 10 => ⟨#[114, 101, 97, 112]⟩
  | 11 => ⟨#[115, 112, 101, 110, 116]⟩
  | _ => ⟨#[]⟩
/-- Where a kind's numbers stand. -/
def foK : Nat → List Nat
  | 1 => [1, 3]
  | 2 => [1, 2, 3, 4, 5]
  | 3 => [3, 4]
  | 4 => [1, 2]
  | 5 => [1]
  | 6 => [1]
  | 7 => []
  | 8 => []
  | 9 => []
  | 10 => [1]
  | 11 => [1]
  | _ => []
/-- 1: any number behind them; 2: a word of some. -/
def clsK : Nat → Nat
  | 3 => 1
  | 4 => 1
  | 6 => 2
  | 11 => 2
  | _ => 0
/-- Whether a kind has a list. -/
def liK : Nat → Bool
  | 9 => true
  | _ => false
/-- The words of some. -/
def wsK : Nat → List ByteArray
  | 6 => [⟨#[]⟩, ⟨#[100, 105, 118, 105, 100, 101]⟩, ⟨#[105, 110, 100, 101, 120]⟩, ⟨#[102, 105, 108, 108]⟩, ⟨#[110, 105, 108]⟩, ⟨#[119, 114, 111, 110, 103]⟩]
  | 11 => [⟨#[]⟩, ⟨#[112, 114, 111, 99, 115]⟩, ⟨#[108, 105, 118, 101]⟩, ⟨#[99, 104, 97, 110, 115]⟩, ⟨#[116, 105, 99, 107, 115]⟩, ⟨#[99, 101, 108, 108, 115]⟩, ⟨#[100, 101, 112, 116, 104]⟩]
  | _ => []
/-- A field's number. -/
def getK (x : S24) : Nat → Int
  | 1 => x.f1
  | 2 => x.f2
  | 3 => x.f3
  | 4 => x.f4
  | 5 => x.f5
  | 6 => x.f6
  | _ => x.f0
abbrev evC (x : S24) (lv : Value) : Array Value := #[.int .i64 x.f0, .int .i64 x.f1, .int .i64 x.f2, .int .i64 x.f3, .int .i64 x.f4, .int .i64 x.f5, .int .i64 x.f6, lv]
/-- A form's slice of pointers to numbers of the event at block g. -/
def FieldsAt (w : World) (g : Nat) (v : Value) (fo : List Nat) : Prop :=
  ∃ A, v = .slice A fo.length fo.length ∧ ∀ (j o : Nat), fo[j]? = some o → ∃ ad, A = some ad ∧ ad.block ≠ g ∧ w.cell? (ad.add j) = some (.pointer (some ⟨g, o, none⟩))
theorem FieldsAt.below {w w' : World} {g : Nat} {v : Value} {fo : List Nat} (h : FieldsAt w g v fo) (hb : Below w.heap.size w w') : FieldsAt w' g v fo := by
  obtain ⟨A, hv, hc⟩ := h
  refine ⟨A, hv, fun j o hj => ?_⟩
  obtain ⟨ad, ha, hn, hx⟩ := hc j o hj
  exact ⟨ad, ha, hn, pw_cell_below hb hx⟩
theorem fields_nil (w : World) (g : Nat) : FieldsAt w g (.slice none 0 0) [] := ⟨none, rfl, fun j o h => by simp at h⟩
theorem fields_blk {w : World} {g b : Nat} (fo : List Nat) (hn : b ≠ g) (h : w.heap[b]? = some (.cells (fo.map fun o => Value.pointer (some ⟨g, o, none⟩)).toArray 45 (0, 0))) : FieldsAt w g (.slice (some ⟨b, 0, none⟩) fo.length fo.length) fo := by
  refine ⟨_, rfl, fun j o hj => ⟨_, rfl, hn, ?_⟩⟩
  have : (⟨b, 0, none⟩ : Addr).add j = ⟨b, j, none⟩ := by simp [Addr.add]; exact Eq.symm
  rw [this, blk_cell h j]
  simp [hj]
theorem at1_2 (w : World) (a b : Obj) : ((w.alloc a).alloc b).heap[w.heap.size + 1]? = some b := by
  have h := heap_alloc_new (w.alloc a) b
  rwa [show (w.alloc a).heap.size = w.heap.size + 1 from Array.size_push ..] at h
theorem at1_3 (w : World) (a b c : Obj) : (((w.alloc a).alloc b).alloc c).heap[w.heap.size + 1]? = some b := blk_below (at1_2 w a b) (below_alloc (Below.refl _ _) c)
theorem at2_3 (w : World) (a b c : Obj) : (((w.alloc a).alloc b).alloc c).heap[w.heap.size + 2]? = some c := by
  have h := heap_alloc_new ((w.alloc a).alloc b) c
  rwa [show ((w.alloc a).alloc b).heap.size = w.heap.size + 2 by rw [show ((w.alloc a).alloc b).heap = (w.heap.push a).push b from rfl, Array.size_push, Array.size_push]] at h
theorem bel1 (w : World) (a : Obj) : Below w.heap.size w (w.alloc a) := below_alloc (Below.refl _ _) a
theorem bel2 (w : World) (a b : Obj) : Below w.heap.size w ((w.alloc a).alloc b) := below_alloc (bel1 w a) b
theorem bel3 (w : World) (a b c : Obj) : Below w.heap.size w (((w.alloc a).alloc b).alloc c) := below_alloc (bel2 w a b) c

theorem form_c0 (k : Nat) (h1 : 1 ≤ k) (h2 : k ≤ 11) (hc : clsK k = 0) (g : Nat) (x : S24) (lv : Value) (w : World) (hk : x.f0 = k) (hb : w.heap[g]? = some (.cells (evC x lv) 24 (0, 0))) :
    Calls Tryd.prog 23 #[.pointer (some ⟨g, 0, none⟩)] w fun e w' => ∃ vF, e = .returned (.tuple #[.agg #[.string (wordB k), vF, .pointer none, .slice none 0 0, .pointer none, .bool (liK k)], .bool true]) ∧ FieldsAt w' g vF (foK k) ∧ Below w.heap.size w w' := by
  obtain ⟨x0, x1, x2, x3, x4, x5, x6, l⟩ := x
  simp only at hk
  subst hk
  match k, h1, h2, hc, hb with
  | 1, _, _, _, hb =>
    refine (form_1 g (.int .i64 1) (.int .i64 x1) (.int .i64 x2) (.int .i64 x3) (.int .i64 x4) (.int .i64 x5) (.int .i64 x6) lv w rfl hb).mono ?_
    rintro e w' ⟨rfl, rfl⟩
    exact ⟨_, rfl, fields_blk (foK 1) (by have := blk_lt hb; omega) (at1_2 _ _ _), below_drew (bel2 _ _ _)⟩
  | 2, _, _, _, hb =>
    refine (form_2 g (.int .i64 2) (.int .i64 x1) (.int .i64 x2) (.int .i64 x3) (.int .i64 x4) (.int .i64 x5) (.int .i64 x6) lv w rfl hb).mono ?_
    rintro e w' ⟨rfl, rfl⟩
    exact ⟨_, rfl, fields_blk (foK 2) (by have := blk_lt hb; omega) (at1_2 _ _ _), below_drew (bel2 _ _ _)⟩
  | 3, _, _, hc, _ => exact absurd hc (by decide)
  | 4, _, _, hc, _ => exact absurd hc (by decide)
  | 5, _, _, _, hb =>
    refine (form_5 g (.int .i64 5) (.int .i64 x1) (.int .i64 x2) (.int .i64 x3) (.int .i64 x4) (.int .i64 x5) (.int .i64 x6) lv w rfl hb).mono ?_
    rintro e w' ⟨rfl, rfl⟩
    exact ⟨_, rfl, fields_blk (foK 5) (by have := blk_lt hb; omega) (at1_2 _ _ _), bel2 _ _ _⟩
  | 6, _, _, hc, _ => exact absurd hc (by decide)
  | 7, _, _, _, hb =>
    refine (form_7 g (.int .i64 7) (.int .i64 x1) (.int .i64 x2) (.int .i64 x3) (.int .i64 x4) (.int .i64 x5) (.int .i64 x6) lv w rfl hb).mono ?_
    rintro e w' ⟨rfl, rfl⟩
    exact ⟨_, rfl, fields_nil _ _, bel1 _ _⟩
  | 8, _, _, _, hb =>
    refine (form_8 g (.int .i64 8) (.int .i64 x1) (.int .i64 x2) (.int .i64 x3) (.int .i64 x4) (.int .i64 x5) (.int .i64 x6) lv w rfl hb).mono ?_
    rintro e w' ⟨rfl, rfl⟩
    exact ⟨_, rfl, fields_nil _ _, bel1 _ _⟩
  | 9, _, _, _, hb =>
    refine (form_9 g (.int .i64 9) (.int .i64 x1) (.int .i64 x2) (.int .i64 x3) (.int .i64 x4) (.int .i64 x5) (.int .i64 x6) lv w rfl hb).mono ?_
    rintro e w' ⟨rfl, rfl⟩
    exact ⟨_, rfl, fields_nil _ _, bel1 _ _⟩
  | 10, _, _, _, hb =>
    refine (form_10 g (.int .i64 10) (.int .i64 x1) (.int .i64 x2) (.int .i64 x3) (.int .i64 x4) (.int .i64 x5) (.int .i64 x6) lv w rfl hb).mono ?_
    rintro e w' ⟨rfl, rfl⟩
    exact ⟨_, rfl, fields_blk (foK 10) (by have := blk_lt hb; omega) (at1_2 _ _ _), bel2 _ _ _⟩
  | 11, _, _, hc, _ => exact absurd hc (by decide)
  | k + 12, _, h, _, _ => exact absurd h (by omega)
theorem form_c1 (k : Nat) (h1 : 1 ≤ k) (h2 : k ≤ 11) (hc : clsK k = 1) (g : Nat) (x : S24) (lv : Value) (w : World) (hk : x.f0 = k) (hb : w.heap[g]? = some (.cells (evC x lv) 24 (0, 0))) :
    Calls Tryd.prog 23 #[.pointer (some ⟨g, 0, none⟩)] w fun e w' => ∃ vF, e = .returned (.tuple #[.agg #[.string (wordB k), vF, .pointer (some ⟨g, 6, none⟩), .slice none 0 0, .pointer none, .bool false], .bool true]) ∧ FieldsAt w' g vF (foK k) ∧ Below w.heap.size w w' := by
  obtain ⟨x0, x1, x2, x3, x4, x5, x6, l⟩ := x
  simp only at hk
  subst hk
  match k, h1, h2, hc, hb with
  | 1, _, _, hc, _ => exact absurd hc (by decide)
  | 2, _, _, hc, _ => exact absurd hc (by decide)
  | 3, _, _, _, hb =>
    refine (form_3 g (.int .i64 3) (.int .i64 x1) (.int .i64 x2) (.int .i64 x3) (.int .i64 x4) (.int .i64 x5) (.int .i64 x6) lv w rfl hb).mono ?_
    rintro e w' ⟨rfl, rfl⟩
    exact ⟨_, rfl, fields_blk (foK 3) (by have := blk_lt hb; omega) (at1_2 _ _ _), below_drew (bel2 _ _ _)⟩
  | 4, _, _, _, hb =>
    refine (form_4 g (.int .i64 4) (.int .i64 x1) (.int .i64 x2) (.int .i64 x3) (.int .i64 x4) (.int .i64 x5) (.int .i64 x6) lv w rfl hb).mono ?_
    rintro e w' ⟨rfl, rfl⟩
    exact ⟨_, rfl, fields_blk (foK 4) (by have := blk_lt hb; omega) (at1_2 _ _ _), below_drew (bel2 _ _ _)⟩
  | 5, _, _, hc, _ => exact absurd hc (by decide)
  | 6, _, _, hc, _ => exact absurd hc (by decide)
  | 7, _, _, hc, _ => exact absurd hc (by decide)
  | 8, _, _, hc, _ => exact absurd hc (by decide)
  | 9, _, _, hc, _ => exact absurd hc (by decide)
  | 10, _, _, hc, _ => exact absurd hc (by decide)
  | 11, _, _, hc, _ => exact absurd hc (by decide)
  | k + 12, _, h, _, _ => exact absurd h (by omega)
theorem form_c2 (k : Nat) (h1 : 1 ≤ k) (h2 : k ≤ 11) (hc : clsK k = 2) (g : Nat) (x : S24) (lv : Value) (w : World) (hk : x.f0 = k) (hb : w.heap[g]? = some (.cells (evC x lv) 24 (0, 0))) :
    Calls Tryd.prog 23 #[.pointer (some ⟨g, 0, none⟩)] w fun e w' => ∃ vF b, e = .returned (.tuple #[.agg #[.string (wordB k), vF, .pointer none, .slice (some ⟨b, 0, none⟩) (wsK k).length (wsK k).length, .pointer (some ⟨g, 6, none⟩), .bool false], .bool true]) ∧ FieldsAt w' g vF (foK k) ∧ w'.heap[b]? = some (.cells ((wsK k).map Value.string).toArray 9 (0, 0)) ∧ Below w.heap.size w w' := by
  obtain ⟨x0, x1, x2, x3, x4, x5, x6, l⟩ := x
  simp only at hk
  subst hk
  match k, h1, h2, hc, hb with
  | 1, _, _, hc, _ => exact absurd hc (by decide)
  | 2, _, _, hc, _ => exact absurd hc (by decide)
  | 3, _, _, hc, _ => exact absurd hc (by decide)
  | 4, _, _, hc, _ => exact absurd hc (by decide)
  | 5, _, _, hc, _ => exact absurd hc (by decide)
  | 6, _, _, _, hb =>
    refine (form_6 g (.int .i64 6) (.int .i64 x1) (.int .i64 x2) (.int .i64 x3) (.int .i64 x4) (.int .i64 x5) (.int .i64 x6) lv w rfl hb).mono ?_
    rintro e w' (⟨rfl, rfl⟩ | ⟨rfl, rfl⟩)
    · exact ⟨_, w.heap.size + 2, rfl, fields_blk (foK 6) (by have := blk_lt hb; omega) (at1_3 _ _ _ _), at2_3 _ _ _ _, below_drew (bel3 _ _ _ _)⟩
    · exact ⟨_, w.heap.size + 1, rfl, fields_blk (foK 6) (by have := blk_lt hb; omega) (at2_3 _ _ _ _), at1_3 _ _ _ _, below_drew (bel3 _ _ _ _)⟩
  | 7, _, _, hc, _ => exact absurd hc (by decide)
  | 8, _, _, hc, _ => exact absurd hc (by decide)
  | 9, _, _, hc, _ => exact absurd hc (by decide)
  | 10, _, _, hc, _ => exact absurd hc (by decide)
  | 11, _, _, _, hb =>
    refine (form_11 g (.int .i64 11) (.int .i64 x1) (.int .i64 x2) (.int .i64 x3) (.int .i64 x4) (.int .i64 x5) (.int .i64 x6) lv w rfl hb).mono ?_
    rintro e w' (⟨rfl, rfl⟩ | ⟨rfl, rfl⟩)
    · exact ⟨_, w.heap.size + 2, rfl, fields_blk (foK 11) (by have := blk_lt hb; omega) (at1_3 _ _ _ _), at2_3 _ _ _ _, below_drew (bel3 _ _ _ _)⟩
    · exact ⟨_, w.heap.size + 1, rfl, fields_blk (foK 11) (by have := blk_lt hb; omega) (at2_3 _ _ _ _), at1_3 _ _ _ _, below_drew (bel3 _ _ _ _)⟩
  | k + 12, _, h, _, _ => exact absurd h (by omega)
end Go.Proofs.YtiapfhlipoomaaaDoor.Given
