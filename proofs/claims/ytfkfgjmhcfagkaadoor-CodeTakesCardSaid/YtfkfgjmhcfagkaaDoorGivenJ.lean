/- code.read at a line of one word; and where a number is wrong. -/
import Derived.Test.YtfkfgjmhcfagkaaDoorGivenI
namespace Go.Proofs.YtfkfgjmhcfagkaaDoor.Given
open Go.RowKit Go.Proofs.YtfkfgjmhcfagkaaDoorW.PrintWords Go.Proofs.YtfkfgjmhcfagkaaDoorW.PrintLast Go.Proofs.YtfkfgjmhcfagkaaDoorW.PrintMore Go.Proofs.YtfkfgjmhcfagkaaDoor.Print
set_option linter.unusedVariables false
set_option linter.unusedSimpArgs false

theorem nums_none : ∀ (l : List ByteArray), numsIn l = none → ∃ (j : Nat) (t : ByteArray), l[j]? = some t ∧ numOf t = none ∧ ∀ (k : Nat) (u : ByteArray), k < j → l[k]? = some u → ∃ v, numOf u = some v
  | [], h => by cases h
  | a :: r, h => by
    unfold numsIn at h
    cases ha : numOf a with
    | none => exact ⟨0, a, rfl, ha, fun k u hk => absurd hk (Nat.not_lt_zero _)⟩
    | some v =>
      cases hr : numsIn r with
      | some l => rw [ha, hr] at h; cases h
      | none =>
        obtain ⟨j, t, h1, h2, h3⟩ := nums_none r hr
        refine ⟨j + 1, t, h1, h2, fun k u hk hu => ?_⟩
        cases k with
        | zero => injection hu with hu; exact ⟨v, hu ▸ ha⟩
        | succ k => exact h3 k u (by omega) hu

set_option maxRecDepth 100000 in
set_option maxHeartbeats 4000000 in
theorem read_none (s : ByteArray) (n : Nat) (hn : Lib.countB s space = n + 1) (w : World) (hs : s.size < 4294967281) (hL : LW w) (h : readOf s = none) :
    Calls Tryd.prog 61 #[.string s] w fun e w' => e = .returned (.tuple #[.string ⟨#[]⟩, .slice none 0 0, .bool false]) ∧ Below w.heap.size w w' := by
  have HL := Aside0.mk hL
  have HN := Aside0.mk hn
  have HH := Aside0.mk h
  clear hL hn h
  go_enter Tryd.func61, Tryd.ntmps61
  go_wp2_with (go_at_call 69; refine (split_any s (n + 1) HN.out _ hs HL.out).mono ?_; rintro e w1 ⟨rfl, hbk, hb⟩; have BK := Aside0.mk hbk; have HB := Aside0.mk hb; clear hbk hb)
  obtain ⟨ws, hws⟩ : ∃ ws, ws = wordsL s := ⟨_, rfl⟩
  have hlen := words_length s (n + 1) HN.out
  have hh := HH.out
  unfold readOf at hh
  rw [← hws] at hh hlen BK
  obtain ⟨j, tb, hj1, hj2, hj3⟩ := nums_none _ (Option.map_eq_none_iff.1 hh)
  have hjn : j < n + 1 := by
    have := (List.getElem?_eq_some_iff.1 hj1).1
    simp [hlen] at this
    omega
  have HJ1 := Aside0.mk hj1
  have HJ2 := Aside0.mk hj2
  have HJ3 := Aside0.mk hj3
  have HLEN := Aside0.mk hlen
  have HSZ : Aside0 (∀ t ∈ ws, t.size ≤ 281474976710656) := ⟨fun t ht => by
    rw [hws] at ht
    exact Nat.le_trans (word_size s t ht) (by omega)⟩
  have HNS : Aside0 (n + 1 ≤ 4294967281) := ⟨by
    have := count_le s
    rw [HN.out] at this
    omega⟩
  clear hws hlen hh hj1 hj2 hj3 HH
  go_loopw [6, 16] (fun v6 i wr => ∃ (k : Nat) (acc : List Int), i = .int .i64 k ∧ k ≤ j ∧ acc.length = k ∧ Aside0 (Kd.R (Kd.int .i64) 3 wr w1.heap.size (fun _ => True) v6 acc) ∧ Aside0 (Below w1.heap.size w1 wr)) (fun _ i _ => n + 1 - (intOf i).toNat)
  case atStart => exact ⟨0, [], rfl, by omega, rfl, ⟨Kd.R_nil _ _ _ _ _⟩, ⟨Below.refl _ _⟩⟩
  case round =>
    obtain ⟨k, acc, rfl, hk, hacc, HO, HB1⟩ := hrel
    have hns := HNS.out
    have HTL : Aside0 (acc.length ≤ 4294967281) := ⟨by omega⟩
    have HAC := Aside0.mk hacc
    clear hacc
    by_cases hlt : k < j
    · obtain ⟨t, ht⟩ : ∃ t, ws[k + 1]? = some t := ⟨_, List.getElem?_eq_getElem (by rw [HLEN.out]; omega)⟩
      obtain ⟨v, hv⟩ := HJ3.out k t hlt (by rw [List.getElem?_tail]; exact ht)
      have x0 : wr.cell? ⟨w.heap.size, 1 + k, none⟩ = some (.string t) := by
        rw [blk_cell (blk_below BK.out HB1.out) (1 + k), Nat.add_comm 1 k]
        simp [ht]
      have HV := Aside0.mk hv
      have hq : ((itoaB v).toList == t.toList) = true := by simpa using (numOf_some hv).2
      have HQ := Aside0.mk (numOf_some hv).1
      have HTS := Aside0.mk (HSZ.out t (List.mem_of_getElem? ht))
      have hkn : k < n + 1 := by omega
      clear ht hv
      go_wp2_with (first
        | (go_at_call 70; refine (atoi_good t v HV.out _ HTS.out).mono ?_; rintro e w2 ⟨rfl, hb⟩; have n1_ := Aside0.mk (Kd.R_below HO.out hb); have n3_ := Aside0.mk (below_then HB1.out HB1.out.size hb); clear HO HB1 hb; have HO := n1_; have HB1 := n3_; clear n1_ n3_)
        | (go_at_call 54; refine (itoa_any v HQ.out _ (HL.out.below (below_then HB.out HB.out.size HB1.out))).mono ?_; rintro e w3 ⟨rfl, hb⟩; have n1_ := Aside0.mk (Kd.R_below HO.out hb); have n3_ := Aside0.mk (below_then HB1.out HB1.out.size hb); clear HO HB1 hb; have HO := n1_; have HB1 := n3_; clear n1_ n3_)
        | ((with_reducible refine gate_builtin (b := .append) (xs := #[.tmp 33, .tmp 35]) rfl ?_); at_builtin; refine Kd.R_append (Kd.int .i64) (w0 := w1) w1.heap.size rfl (.tmp 33) (.tmp 35) 26 3 (.int .i64 0) 8 rfl Tryd.underlying26 info3 rfl (by decide) (by omega) u6 acc v [.int .i64 v] (fun _ => True) (fun _ => False) rfl rfl ?aP (fun _ hk => hk.elim) ?aF ?aO ?aB ?aS ?aL ?_; (case aP => exact rfl); (case aB => exact HB1.out); (case aF => exact (fun _ _ => trivial)); (case aO => exact HO.out); (case aS => exact HB1.out.size); (case aL => have := HTL.out; omega); intro v7 w7 ho hb hg_ hat_; clear hg_ hat_; have n1_ : Aside0 (Kd.R (Kd.int .i64) 3 w7 w1.heap.size (fun _ => True) v7 (acc ++ [v])) := ⟨ho⟩; have n3_ := Aside0.mk hb; clear HO HB1 ho hb; have HO := n1_; have HB1 := n3_; clear n1_ n3_))
      go_roundw
      case rel => exact ⟨k + 1, acc ++ [v], by go_num, by omega, by rw [List.length_append, HAC.out]; rfl, HO, HB1⟩
      case measure => simp [intOf]; omega
    · obtain rfl : k = j := by omega
      have ht : ws[k + 1]? = some tb := by rw [← List.getElem?_tail]; exact HJ1.out
      have x0 : wr.cell? ⟨w.heap.size, 1 + k, none⟩ = some (.string tb) := by
        rw [blk_cell (blk_below BK.out HB1.out) (1 + k), Nat.add_comm 1 k]
        simp [ht]
      have HTS := Aside0.mk (HSZ.out tb (List.mem_of_getElem? ht))
      clear ht
      go_wp2_with (first
        | (go_at_call 70; refine (atoi_bad tb HJ2.out _ (HL.out.below (below_then HB.out HB.out.size HB1.out)) HTS.out).mono ?_; rintro e w2 ⟨v, er, rfl, her, hb⟩; have n3_ := Aside0.mk (below_then HB1.out HB1.out.size hb); have HV := Aside0.mk her; rcases her with ⟨a, rfl⟩ | ⟨rfl, hv1, hv2⟩)
        | (go_at_call 54; refine (itoa_any _ hv1 _ (HL.out.below (below_then HB.out HB.out.size n3_.out))).mono ?_; rintro e w3 ⟨rfl, hb3⟩; have n4_ := Aside0.mk (below_then n3_.out n3_.out.size hb3)))
      all_goals go_ret3
      all_goals first
        | exact ⟨rfl, below_then HB.out HB.out.size n4_.out⟩
        | exact ⟨rfl, below_then HB.out HB.out.size n3_.out⟩
end Go.Proofs.YtfkfgjmhcfagkaaDoor.Given
