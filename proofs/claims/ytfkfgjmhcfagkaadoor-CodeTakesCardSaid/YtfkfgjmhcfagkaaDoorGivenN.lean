/- code.one, whole; the kinds of what Parse makes. -/
import Derived.Test.YtfkfgjmhcfagkaaDoorGivenR
namespace Go.Proofs.YtfkfgjmhcfagkaaDoor.Given
open Go.RowKit Go.Proofs.YtfkfgjmhcfagkaaDoorW.PrintWords Go.Proofs.YtfkfgjmhcfagkaaDoorW.PrintLast Go.Proofs.YtfkfgjmhcfagkaaDoorW.PrintMore Go.Proofs.YtfkfgjmhcfagkaaDoor.Print
set_option linter.unusedVariables false
set_option linter.unusedSimpArgs false

theorem opFind_le (t : ByteArray) : ∀ (n k : Nat), opFind t n k ≤ k + n - 1
  | 0, k => by unfold opFind; omega
  | n + 1, k => by
    unfold opFind
    split
    · omega
    · have := opFind_le t n (k + 1)
      omega
theorem op_at (t : ByteArray) (h : opOf t ≠ 0) : ∃ k : Nat, opOf t = k ∧ 1 ≤ k ∧ k ≤ 27 := by
  refine ⟨opFind t 28 0, rfl, ?_, ?_⟩
  · unfold opOf at h
    omega
  · have := opFind_le t 28 0
    omega
/-- An instruction of a line. -/
def oneOf (t : ByteArray) (ns : List Int) : Option S28 :=
  if opOf t = 0 then none
  else match hA (opOf t).toNat, hB (opOf t).toNat, hL (opOf t).toNat, ns with
    | false, _, true, l => some ⟨opOf t, 0, 0, l⟩
    | false, _, false, [] => some ⟨opOf t, 0, 0, []⟩
    | false, _, false, _ :: _ => none
    | true, _, true, [] => none
    | true, _, true, x :: r => some ⟨opOf t, x, 0, r⟩
    | true, false, false, [x] => some ⟨opOf t, x, 0, []⟩
    | true, false, false, _ => none
    | true, true, false, [x, y] => some ⟨opOf t, x, y, []⟩
    | true, true, false, _ => none
variable {w : World} {base : Nat} {ok : Nat → Prop} {v : Value} {ns : List Int}
abbrev OneYes (w : World) (base : Nat) (ok : Nat → Prop) (i : S28) (e : Ending) (w' : World) : Prop := ∃ v', e = .returned (.tuple #[.agg #[.int .i64 i.f0, .int .i64 i.f1, .int .i64 i.f2, v'], .bool true]) ∧ (Kd.int .i64).Q 3 w' base ok v' i.f3 ∧ Below w.heap.size w w'
abbrev OneNo (w : World) (e : Ending) (w' : World) : Prop := (∃ a b c : Int, e = .returned (.tuple #[.agg #[.int .i64 a, .int .i64 b, .int .i64 c, .slice none 0 0], .bool false])) ∧ Below w.heap.size w w'
/-- What one answers, either way. -/
def OneSays (w : World) (base : Nat) (ok : Nat → Prop) (r : Option S28) (e : Ending) (w' : World) : Prop := match r with
  | some i => OneYes w base ok i e w'
  | none => OneNo w e w'
theorem one_any (t : ByteArray) (HQ : (Kd.int .i64).Q 3 w base ok v ns) : Calls Tryd.prog 62 #[.string t, v] w (OneSays w base ok (oneOf t ns)) := by
  obtain ⟨A, c, rfl, hc, hr⟩ := Kd.Q_reads HQ
  by_cases h0 : opOf t = 0
  · have hn : oneOf t ns = none := by unfold oneOf; rw [if_pos h0]
    rw [hn]
    refine (one_out t _ w h0).mono ?_
    rintro e w' ⟨a, b, c, h1, h2⟩
    exact ⟨⟨a, b, c, h1⟩, h2⟩
  obtain ⟨k, hk, k1, k2⟩ := op_at t h0
  have hkn : (opOf t).toNat = k := by rw [hk]; rfl
  obtain ⟨_, hH⟩ := rows_at k k1 k2
  unfold oneOf
  rw [if_neg h0, hkn]
  rcases hH with hH | hH | hH | hH | hH
  · rw [show hA k = false by unfold hA; rw [hH]; rfl, show hL k = false by unfold hL; rw [hH]; rfl]
    refine (one_h0 t k A c ns.length ns w hr hc hk k1 k2 hH).mono ?_
    rintro e w' ⟨rfl, hb⟩
    cases ns with
    | nil => exact ⟨_, by rw [hk]; rfl, Kd.Q_nil _ _ _ _ _, hb⟩
    | cons x r => exact ⟨⟨_, _, _, by rw [show ((((x :: r).length : Nat) : Int) == 0) = false by simp; omega]⟩, hb⟩
  · rw [show hA k = true by unfold hA; rw [hH]; rfl, show hB k = false by unfold hB; rw [hH]; rfl, show hL k = false by unfold hL; rw [hH]; rfl]
    match ns, hr, hc, HQ with
    | [], hr, hc, HQ =>
      refine (one_h1n t k A c w hr hc hk k1 k2 hH).mono ?_
      rintro e w' h
      exact h
    | x :: r, hr, hc, HQ =>
      refine (one_h1 t k A c x r w hr hc hk k1 k2 hH).mono ?_
      rintro e w' ⟨rfl, hb⟩
      cases r with
      | nil => exact ⟨_, by rw [hk]; rfl, Kd.Q_nil _ _ _ _ _, hb⟩
      | cons y r => exact ⟨⟨_, _, _, by rw [show ((((y :: r).length : Nat) : Int) == 0) = false by simp; omega]⟩, hb⟩
  · rw [show hA k = true by unfold hA; rw [hH]; rfl, show hB k = true by unfold hB; rw [hH]; rfl, show hL k = false by unfold hL; rw [hH]; rfl]
    match ns, hr, hc, HQ with
    | [], hr, hc, HQ =>
      refine (one_h3n t k A c w hr hc hk k1 k2 hH).mono ?_
      rintro e w' h
      exact h
    | [x], hr, hc, HQ =>
      refine (one_h3o t k A c x w hr hc hk k1 k2 hH).mono ?_
      rintro e w' h
      exact h
    | x :: y :: r, hr, hc, HQ =>
      refine (one_h3 t k A c x y r w hr hc hk k1 k2 hH).mono ?_
      rintro e w' ⟨rfl, hb⟩
      cases r with
      | nil => exact ⟨_, by rw [hk]; rfl, Kd.Q_nil _ _ _ _ _, hb⟩
      | cons z r => exact ⟨⟨_, _, _, by rw [show ((((z :: r).length : Nat) : Int) == 0) = false by simp; omega]⟩, hb⟩
  · rw [show hA k = false by unfold hA; rw [hH]; rfl, show hL k = true by unfold hL; rw [hH]; rfl]
    refine (one_h4 t k A c ns.length ns w hr hc hk k1 k2 hH).mono ?_
    rintro e w' ⟨rfl, hb⟩
    exact ⟨_, by rw [hk], Kd.Q_below HQ hb, hb⟩
  · rw [show hA k = true by unfold hA; rw [hH]; rfl, show hL k = true by unfold hL; rw [hH]; rfl]
    match ns, hr, hc, HQ with
    | [], hr, hc, HQ =>
      refine (one_h5n t k A c w hr hc hk k1 k2 hH).mono ?_
      rintro e w' h
      exact h
    | x :: r, hr, hc, HQ =>
      refine (one_h5 t k A c x r w hr hc hk k1 k2 hH).mono ?_
      rintro e w' ⟨rfl, hb⟩
      have h := Kd.Q_drop (Kd.Q_below HQ hb) (k := 1) (by simp)
      exact ⟨_, by rw [hk], by simpa [tailA, show (Kd.int .i64).sz = 1 from rfl] using h, hb⟩
/-- A list whose row may begin inside its block, of one's own. -/
def sliceQ {α : Type} (e : Nat) (d : Kd α) : Kd (List α) where
  sz := 1
  E := e :: d.E
  K := (Kd.slice e d).K
  M := fun w base ok xs cs => ∃ v, cs = [v] ∧ Kd.Q d e w base ok v xs
  K_len := (Kd.slice e d).K_len
  K_one := (Kd.slice e d).K_one
  K_below := (Kd.slice e d).K_below
  K_of_M := by
    rintro w base ok x cs ⟨v, rfl, h⟩
    obtain ⟨A, c, rfl, hl, hr⟩ := Kd.Q_reads h
    exact ⟨A, c, rfl, hl, hr⟩
  M_mono := by
    rintro w base ok ok' x cs hok ⟨v, rfl, h⟩
    exact ⟨v, rfl, Kd.Q_mono h hok⟩
  M_bound := by
    rintro w base ok x cs ⟨v, rfl, h⟩
    exact ⟨v, rfl, Kd.Q_bound h⟩
  M_move := by
    rintro w w1 base ok x cs hm ⟨v, rfl, h⟩
    exact ⟨v, rfl, Kd.Q_move h hm⟩
  M_lower := by
    rintro w base base' ok x cs hb ⟨v, rfl, h⟩
    exact ⟨v, rfl, Kd.Q_lower h hb⟩
/-- A list whose elements lie apart, of one's own. -/
def sliceS {α : Type} (e : Nat) (d : Kd α) : Kd (List α) where
  sz := 1
  E := e :: d.E
  K := (Kd.slice e d).K
  M := fun w base ok xs cs => ∃ v, cs = [v] ∧ Kd.S d e w base ok v xs
  K_len := (Kd.slice e d).K_len
  K_one := (Kd.slice e d).K_one
  K_below := (Kd.slice e d).K_below
  K_of_M := by
    rintro w base ok x cs ⟨v, rfl, h⟩
    obtain ⟨A, c, rfl, hl, hr⟩ := Kd.S_reads h
    exact ⟨A, c, rfl, hl, hr⟩
  M_mono := by
    rintro w base ok ok' x cs hok ⟨v, rfl, h⟩
    exact ⟨v, rfl, Kd.S_mono h hok⟩
  M_bound := by
    rintro w base ok x cs ⟨v, rfl, h⟩
    exact ⟨v, rfl, Kd.S_bound h⟩
  M_move := by
    rintro w w1 base ok x cs hm ⟨v, rfl, h⟩
    exact ⟨v, rfl, Kd.S_move h hm⟩
  M_lower := by
    rintro w base base' ok x cs hb ⟨v, rfl, h⟩
    exact ⟨v, rfl, Kd.S_lower h hb⟩
def k28q : Kd S28 := Kd.iso (Kd.pair (Kd.int .i64) (Kd.pair (Kd.int .i64) (Kd.pair (Kd.int .i64) (sliceQ 3 (Kd.int .i64))))) (fun x : S28 => (x.f0, x.f1, x.f2, x.f3))
def k54q : Kd S54 := Kd.iso (Kd.pair (Kd.int .i64) (Kd.pair (sliceQ 3 (Kd.int .i64)) Kd.bool)) (fun x : S54 => (x.f0, x.f1, x.f2))
def k57q : Kd S57 := Kd.iso (Kd.pair (Kd.int .i64) (Kd.pair (Kd.int .i64) (Kd.pair (Kd.int .i64) (Kd.pair Kd.bool (sliceS 28 k28q))))) (fun x : S57 => (x.f0, x.f1, x.f2, x.f3, x.f4))
theorem k57q_C {w : World} {A : Option Addr} {n : Nat} {ps : List S57} (h : k57q.C w A n ps) : k57.C w A n ps := h
theorem k54q_C {w : World} {A : Option Addr} {n : Nat} {ps : List S54} (h : k54q.C w A n ps) : k54.C w A n ps := h
theorem k28q_mkM (w : World) (base : Nat) (ok : Nat → Prop) (x : S28) {v3 : Value} (g3 : (Kd.int .i64).Q 3 w base ok v3 x.f3) : k28q.M w base ok x [.int .i64 x.f0, .int .i64 x.f1, .int .i64 x.f2, v3] :=
  ⟨[.int .i64 x.f0], [.int .i64 x.f1, .int .i64 x.f2, v3], rfl, rfl, ⟨[.int .i64 x.f1], [.int .i64 x.f2, v3], rfl, rfl, ⟨[.int .i64 x.f2], [v3], rfl, rfl, ⟨v3, rfl, g3⟩⟩⟩⟩
theorem k54q_mkM (w : World) (base : Nat) (ok : Nat → Prop) (x : S54) {v1 : Value} (g1 : (Kd.int .i64).Q 3 w base ok v1 x.f1) : k54q.M w base ok x [.int .i64 x.f0, v1, .bool x.f2] :=
  ⟨[.int .i64 x.f0], [v1, .bool x.f2], rfl, rfl, ⟨[v1], [.bool x.f2], rfl, ⟨v1, rfl, g1⟩, rfl⟩⟩
theorem k57q_mkM (w : World) (base : Nat) (ok : Nat → Prop) (x : S57) {v4 : Value} (g4 : Kd.S k28q 28 w base ok v4 x.f4) : k57q.M w base ok x [.int .i64 x.f0, .int .i64 x.f1, .int .i64 x.f2, .bool x.f3, v4] :=
  ⟨[.int .i64 x.f0], [.int .i64 x.f1, .int .i64 x.f2, .bool x.f3, v4], rfl, rfl, ⟨[.int .i64 x.f1], [.int .i64 x.f2, .bool x.f3, v4], rfl, rfl, ⟨[.int .i64 x.f2], [.bool x.f3, v4], rfl, rfl, ⟨[.bool x.f3], [v4], rfl, rfl, ⟨v4, rfl, g4⟩⟩⟩⟩⟩
theorem k57q_openM {w : World} {base : Nat} {ok : Nat → Prop} {x : S57} {cs : List Value} (h : k57q.M w base ok x cs) : ∃ v4, cs = [.int .i64 x.f0, .int .i64 x.f1, .int .i64 x.f2, .bool x.f3, v4] ∧ Kd.S k28q 28 w base ok v4 x.f4 := by
  obtain ⟨_, _, rfl, rfl, ⟨_, _, rfl, rfl, ⟨_, _, rfl, rfl, ⟨_, _, rfl, rfl, ⟨v4, rfl, g4⟩⟩⟩⟩⟩ := h
  exact ⟨v4, rfl, g4⟩
/-- The unit that Parse makes: its box at block g, the lists from base on, in memory of their own, apart from one another. -/
def UnitAt (w : World) (base g : Nat) (ps : List S57) (ts : List S54) : Prop := ∃ P T okP okT, w.heap[g]? = some (.cells #[P, T] 36 (0, 0)) ∧ Kd.S k57q 57 w base okP P ps ∧ Kd.S k54q 54 w base okT T ts ∧ ∀ k, okP k → okT k → False
/-- All below base but the unit's box stays. -/
structure Fr (base g : Nat) (w w' : World) : Prop where
  os : w'.os = w.os
  tape : w'.tape = w.tape
  output : w'.output = w.output
  size : w.heap.size ≤ w'.heap.size
  block : ∀ k, k < base → k ≠ g → w'.heap[k]? = w.heap[k]?
theorem Fr.below {base g N : Nat} {w w' : World} (h : Fr base g w w') (hb : N ≤ base) (hg : N ≤ g) : Below N w w' := ⟨h.os, h.tape, h.output, h.size, fun k hk => h.block k (by omega) (by omega)⟩
theorem Fr.of_below {base g : Nat} {w w' : World} (h : Below base w w') : Fr base g w w' := ⟨h.os, h.tape, h.output, h.size, fun k hk _ => h.block k hk⟩
theorem Fr.trans {base g : Nat} {w w1 w2 : World} (h : Fr base g w w1) (k : Fr base g w1 w2) : Fr base g w w2 := ⟨k.os.trans h.os, k.tape.trans h.tape, k.output.trans h.output, Nat.le_trans h.size k.size, fun j hj hg => (k.block j hj hg).trans (h.block j hj hg)⟩
end Go.Proofs.YtfkfgjmhcfagkaaDoor.Given
