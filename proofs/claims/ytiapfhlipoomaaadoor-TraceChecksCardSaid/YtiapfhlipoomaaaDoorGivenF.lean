/- trace.put: words laid down as a line. -/
import Derived.Test.YtiapfhlipoomaaaDoorGivenE
import Derived.Lib.Join
namespace Go.Proofs.YtiapfhlipoomaaaDoor.Given
open Go.RowKit Go.Proofs.YtiapfhlipoomaaaDoorW.PrintWords Go.Proofs.YtiapfhlipoomaaaDoorW.PrintLast Go.Proofs.YtiapfhlipoomaaaDoorW.PrintMore Go.Proofs.YtiapfhlipoomaaaDoor.Print
set_option linter.unusedVariables false
set_option linter.unusedSimpArgs false

/-- Words with a blank between them. -/
def joinB (xs : List ByteArray) : ByteArray := ⟨(Lib.join (xs.map (·.data.toList)) [32]).toArray⟩
/-- A line: words with a blank between them, and its end. -/
def lineB (xs : List ByteArray) : ByteArray := joinB xs ++ ⟨#[10]⟩
theorem joinB_size (xs : List ByteArray) : (joinB xs).size = (Lib.join (xs.map (·.data.toList)) [32]).length := by
  show (Lib.join (xs.map (·.data.toList)) [32]).toArray.size = _
  rw [List.size_toArray]
theorem lineB_size (xs : List ByteArray) : (lineB xs).size = (joinB xs).size + 1 := by
  rw [lineB, size_append]
  rfl
theorem join_len : ∀ (xs : List (List UInt8)), xs.length ≤ (Lib.join xs [32]).length + 1
  | [] => by simp
  | x :: r => by
    rw [Lib.join_cons]
    have : r.length ≤ (Lib.joinTail [32] r).length := by
      unfold Lib.joinTail
      induction r with
      | nil => simp
      | cons y r ih => simp only [List.map_cons, List.flatten_cons, List.length_append, List.length_cons, List.length_nil]; omega
    simp only [List.length_cons, List.length_append]
    omega
theorem R_blk {α : Type} {d : Kd α} {e base : Nat} {ok : Nat → Prop} {w : World} {v : Value} {xs : List α} (h : Kd.R d e w base ok v xs) (hne : xs ≠ []) : ∃ g c, v = .slice (some ⟨g, 0, none⟩) xs.length c ∧ g < w.heap.size := by
  obtain ⟨inner, ho⟩ := Kd.R_own h
  obtain ⟨A, c, hv, hl, hr⟩ := Kd.R_reads h
  have h2 := ho.2
  rcases h2 with ⟨h0, hn⟩ | ⟨g, cap, cur, hv', hB, hg, _⟩
  · rw [hv] at h0
    injection h0 with _ h1 _
    exact absurd (List.eq_nil_of_length_eq_zero h1) hne
  · exact ⟨g, cap, hv', blk_lt hg⟩
theorem join_call {base : Nat} {ok : Nat → Prop} {v : Value} (xs : List ByteArray) (w : World) (hv : Kd.R Kd.string 9 w base ok v xs) (hne : xs ≠ []) (hs : (joinB xs).size < 140737488355328) :
    Calls Tryd.prog 45 #[v, .string ⟨#[32]⟩] w fun e w' => e = .returned (.string (joinB xs)) ∧ Below w.heap.size w w' := by
  obtain ⟨g, c, rfl, hg⟩ := R_blk hv hne
  obtain ⟨_, hl, hr⟩ := Kd.R_reads' hv
  have hj := joinB_size xs
  have hlen := join_len (xs.map (·.data.toList))
  rw [List.length_map] at hlen
  refine (Tryd.strings_Join g 0 c xs ⟨#[32]⟩ w ?_ hg (by omega) hl (by show (Lib.join (xs.map (·.data.toList)) [32]).length ≤ _; omega)).mono ?_
  · intro j x hx
    have hj := (List.getElem?_eq_some_iff.1 hx).1
    obtain ⟨ad, e, hc⟩ := Kd.at_string hr (j : Int) (by omega) (by omega)
    injection e with e
    subst e
    rw [Int.toNat_natCast] at hc
    have e2 : (⟨g, 0, none⟩ : Addr).add j = ⟨g, 0 + j, none⟩ := by simp [Addr.add]; try exact Eq.symm
    rw [e2] at hc
    rw [hc]
    simp [rdOf, hx]
  · rintro e w' ⟨rfl, hb⟩
    exact ⟨rfl, hb⟩
set_option maxRecDepth 100000 in
set_option maxHeartbeats 2000000 in
theorem put_any {base : Nat} {ok : Nat → Prop} {v : Value} (b : Nat) (acc : ByteArray) (xs : List ByteArray) (w : World) (h : Lib.IsBuilder 61 5 b b (Lib.strCells acc) w) (hv : Kd.R Kd.string 9 w base ok v xs) (hne : xs ≠ []) (hlen : acc.size + (lineB xs).size ≤ 140737488355328) (hbw : b ≤ w.heap.size) :
    Calls Tryd.prog 33 #[.pointer (some ⟨b, 0, none⟩), v] w fun e w' => e = .returned (.tuple #[]) ∧ Lib.IsBuilder 61 5 b b (Lib.strCells (acc ++ lineB xs)) w' ∧ Below b w w' := by
  have H := Aside0.mk h
  have HV := Aside0.mk hv
  have hls := lineB_size xs
  have HS : Aside0 ((joinB xs).size < 140737488355328) := ⟨by omega⟩
  have HL : Aside0 (acc.size + (joinB xs).size ≤ 140737488355328) := ⟨by omega⟩
  have HL2 : Aside0 ((acc ++ joinB xs).size + 1 ≤ 140737488355328) := ⟨by rw [size_append]; omega⟩
  have HBW := Aside0.mk hbw
  clear h hv hlen hls hbw
  go_enter Tryd.func33, Tryd.ntmps33
  go_wp2_with (first
    | (go_at_call 45; refine (join_call xs _ HV.out hne HS.out).mono ?_; rintro e w1 ⟨rfl, hb⟩; have H1 := Aside0.mk (builder_below H.out hb); have B1 := Aside0.mk (show Below b w w1 from ⟨hb.os, hb.tape, hb.output, hb.size, fun k hk => hb.block k (by have := HBW.out; omega)⟩); clear hb)
    | (go_at_call 44; refine (write_on b acc (joinB xs) _ H1.out HL.out).mono ?_; rintro e w2 ⟨rfl, h2, hb, _⟩; have H2 := Aside0.mk h2; have B2 := Aside0.mk (B1.out.trans hb); clear h2 hb)
    | (go_at_call 46; refine (byte_any b b _ 10 _ H2.out (by rw [Lib.strCells_length]; exact HL2.out) (by have := HBW.out; have := B2.out.size; omega)).mono ?_; rintro e w3 ⟨rfl, h3, hb, _⟩; have H3 := Aside0.mk h3; have B3 := Aside0.mk (B2.out.trans hb); clear h3 hb))
  go_end0
  refine ⟨rfl, .inr ?_, B3.out⟩
  have := H3.out
  rw [strCells_append, lineB, strCells_append, ← List.append_assoc, ← strCells_append]
  exact this
end Go.Proofs.YtiapfhlipoomaaaDoor.Given
