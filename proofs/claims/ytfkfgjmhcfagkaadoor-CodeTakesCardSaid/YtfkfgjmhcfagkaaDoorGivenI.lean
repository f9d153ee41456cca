/- code.read at a line of one word; and where a number is wrong. -/
import Derived.Test.YtfkfgjmhcfagkaaDoorGivenH
namespace Go.Proofs.YtfkfgjmhcfagkaaDoor.Given
open Go.RowKit Go.Proofs.YtfkfgjmhcfagkaaDoorW.PrintWords Go.Proofs.YtfkfgjmhcfagkaaDoorW.PrintLast Go.Proofs.YtfkfgjmhcfagkaaDoorW.PrintMore Go.Proofs.YtfkfgjmhcfagkaaDoor.Print
set_option linter.unusedVariables false
set_option linter.unusedSimpArgs false

set_option maxRecDepth 100000 in
set_option maxHeartbeats 4000000 in
theorem read_one (s : ByteArray) (hn : Lib.countB s space = 0) (w : World) (hs : s.size < 4294967281) (hL : LW w) :
    Calls Tryd.prog 61 #[.string s] w fun e w' => e = .returned (.tuple #[.string s, .slice none 0 0, .bool true]) ∧ Below w.heap.size w w' := by
  have HL := Aside0.mk hL
  have HN := Aside0.mk hn
  have hws : wordsL s = [s] := by rw [wordsL, hn]; rfl
  clear hL hn
  go_enter Tryd.func61, Tryd.ntmps61
  go_wp2_with (go_at_call 69; refine (split_any s 0 HN.out _ hs HL.out).mono ?_; rintro e w1 ⟨rfl, hbk, hb⟩; rw [hws] at hbk; have BK := Aside0.mk hbk; have HB := Aside0.mk hb; clear hbk hb)
  go_loopw [6, 16] (fun v6 i wr => v6 = .slice none 0 0 ∧ i = .int .i64 0 ∧ wr = w1) (fun _ _ _ => 0)
  case atStart => exact ⟨rfl, rfl, rfl⟩
  case round =>
    obtain ⟨rfl, rfl, rfl⟩ := hrel
    have x0 : wr.cell? ⟨w.heap.size, 0, none⟩ = some (.string s) := (blk_cell BK.out 0).trans rfl
    go_wp2
    go_ret3
    exact ⟨rfl, HB.out⟩
theorem atoi_bad (t : ByteArray) (h : numOf t = none) (w : World) (hL : LW w) (hsz : t.size ≤ 281474976710656) :
    Calls Tryd.prog 70 #[.string t] w fun e w' => ∃ (v : Int) (er : Value), e = .returned (.tuple #[.int .i64 v, er]) ∧ ((∃ a, er = .iface 126 (.pointer (some a))) ∨ er = .nilIface ∧ (-9223372036854775808 ≤ v ∧ v ≤ 9223372036854775807) ∧ ((itoaB v).toList == t.toList) = false) ∧ Below w.heap.size w w' := by
  unfold numOf at h
  split at h
  · rename_i v hv
    split at h
    · cases h
    · rename_i hq
      refine (Tryd.strconv_Atoi_ok t (by omega) v hv w).mono ?_
      rintro e w' ⟨rfl, h | ⟨u, h⟩⟩
      · exact ⟨v, _, rfl, .inr ⟨rfl, Lib.atoiAll_bounds hv, by simpa using hq⟩, h ▸ Below.refl _ _⟩
      · exact ⟨v, _, rfl, .inr ⟨rfl, Lib.atoiAll_bounds hv, by simpa using hq⟩, h ▸ bytes_below (Below.refl _ _) (Nat.le_refl _) 5 u⟩
  · rename_i hne
    cases hq : Lib.atoiAll t.data.toList
    · exact absurd hq (hne _)
    · obtain ⟨ev, hv, hev⟩ := hL.2.2.1
      refine (Tryd.strconv_Atoi_syntax t hsz hq ev w hv hev).mono ?_
      rintro e w' ⟨N, rfl, _, _, hb⟩
      exact ⟨_, _, rfl, .inl ⟨_, rfl⟩, hb⟩
    · obtain ⟨ev, hv, hev⟩ := hL.2.2.2
      refine (Tryd.strconv_Atoi_range t hsz hq ev w hv hev).mono ?_
      rintro e w' ⟨N, rfl, _, _, hb⟩
      exact ⟨_, _, rfl, .inl ⟨_, rfl⟩, hb⟩
end Go.Proofs.YtfkfgjmhcfagkaaDoor.Given
