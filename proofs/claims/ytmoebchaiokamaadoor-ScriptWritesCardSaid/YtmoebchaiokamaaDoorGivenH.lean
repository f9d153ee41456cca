/- script.number: a text as a number, of its one form. -/
import Derived.Test.YtmoebchaiokamaaDoorGivenF
namespace Go.Proofs.YtmoebchaiokamaaDoor.Given
open Go.RowKit Go.Proofs.YtmoebchaiokamaaDoorW.PrintWords Go.Proofs.YtmoebchaiokamaaDoorW.PrintLast Go.Proofs.YtmoebchaiokamaaDoorW.PrintMore Go.Proofs.YtmoebchaiokamaaDoor.Print
set_option linter.unusedVariables false
set_option linter.unusedSimpArgs false

set_option maxRecDepth 100000 in
set_option maxHeartbeats 2000000 in
theorem number_yes (t : ByteArray) (v : Int) (h : numOf t = some v) (w : World) (hL : LW w) (hsz : t.size ≤ 281474976710656) :
    Calls Tryd.prog 36 #[.string t] w fun e w' => e = .returned (.tuple #[.int .i64 v, .bool true]) ∧ Below w.heap.size w w' := by
  have HV := Aside0.mk h
  have hq : ((itoaB v).toList == t.toList) = true := by simpa using (numOf_some h).2
  have HQ := Aside0.mk (numOf_some h).1
  have HL := Aside0.mk hL
  clear h hL
  go_enter Tryd.func36, Tryd.ntmps36
  go_wp2_with (first
    | (go_at_call 51; refine (atoi_good t v HV.out _ hsz).mono ?_; rintro e w2 ⟨rfl, hb⟩; have HB := Aside0.mk hb; clear hb)
    | (go_at_call 13; refine (itoa_any v HQ.out _ (HL.out.below HB.out)).mono ?_; rintro e w3 ⟨rfl, hb⟩; have n3_ := Aside0.mk (below_step HB.out hb); clear HB hb; have HB := n3_; clear n3_))
  go_ret2
  exact ⟨rfl, HB.out⟩
set_option maxRecDepth 100000 in
set_option maxHeartbeats 2000000 in
theorem number_no (t : ByteArray) (h : numOf t = none) (w : World) (hL : LW w) (hsz : t.size ≤ 281474976710656) :
    Calls Tryd.prog 36 #[.string t] w fun e w' => (∃ v : Int, e = .returned (.tuple #[.int .i64 v, .bool false])) ∧ Below w.heap.size w w' := by
  have HV := Aside0.mk h
  have HL := Aside0.mk hL
  clear h hL
  go_enter Tryd.func36, Tryd.ntmps36
  go_wp2_with (first
    | (go_at_call 51; refine (atoi_bad t HV.out _ HL.out hsz).mono ?_))
  rintro e w2 ⟨v, er, rfl, h, hb⟩
  have HB := Aside0.mk hb
  clear hb
  rcases h with ⟨a, rfl⟩ | ⟨rfl, hr, hq⟩
  · go_wp2
    go_ret2
    exact ⟨⟨_, rfl⟩, HB.out⟩
  · have HR := Aside0.mk hr
    clear hr
    go_wp2_with (first
      | (go_at_call 13; refine (itoa_any v HR.out _ (HL.out.below HB.out)).mono ?_; rintro e w3 ⟨rfl, hb⟩; have n3_ := Aside0.mk (below_step HB.out hb); clear HB hb; have HB := n3_; clear n3_))
    go_ret2
    exact ⟨⟨_, rfl⟩, HB.out⟩
end Go.Proofs.YtmoebchaiokamaaDoor.Given
