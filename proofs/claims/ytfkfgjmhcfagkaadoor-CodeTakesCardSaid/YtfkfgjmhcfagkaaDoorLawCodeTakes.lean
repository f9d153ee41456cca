/- How many values any instruction takes and lays is the document's (CodeTakes). Condition: the variables that the row lists hold what the program's text lays (the card ties them). -/
import Derived.Test.YtfkfgjmhcfagkaaDoorCards
import Derived.Test.YtfkfgjmhcfagkaaDoorTie
import Derived.Test.YtfkfgjmhcfagkaaDoorGivenV
import Derived.Test.YtfkfgjmhcfagkaaDoorGivenX
import Derived.Carry
import Derived.Test.YtfkfgjmhcfagkaaDoorGivenT
import Derived.WalkKit
import Derived.ProofKit
import Derived.OpenShut
import Derived.ShutString
import Derived.ChangeOld
import Derived.Below
import Derived.SizedLaws
import Derived.Deep.DeepHandedRow
import Derived.Deep.DeepWitnessRowRef
namespace Go.Proofs.YtfkfgjmhcfagkaaDoor.codeTakes
open Go.ChangeShapes Go.WideShapes Go.ChangeAt Go.RowKit
open Go.ChangeMaps (open_string shut_string)
set_option linter.unusedVariables false
theorem own : ownKnob Tryd.prog.godebug = none := by kernel_rfl
theorem laidOut : laidOutB Tryd.prog = true := by kernel_rfl
set_option maxRecDepth 100000 in
theorem reads (os : Os) {H : Type} (enc : TypeId × Value → H) : ∃ places, DataW.whole enc Tryd.prog ((Given.laidWorld os).forCall (fun _ _ => 0) ⟨#[], #[.agg #[.int .i64 0, .int .i64 0, .int .i64 0, .slice none 0 0]], []⟩).memory Tryd.f4.params.toList Rows.codeTakesSpec.vars false #[.agg #[.int .i64 0, .int .i64 0, .int .i64 0, .slice none 0 0]].toList 8 = some ([.agg [.lit (.int .i64 0), .lit (.int .i64 0), .lit (.int .i64 0), .nil]], [], places) :=
  ⟨[], by kernel_rfl⟩
set_option maxRecDepth 100000 in
theorem lifted (os : Os) (started : os.Started) (H : Type) (enc : TypeId × Value → H) (F : Stop.Interp) :
    ReturnsInHanded {} Tryd.checked os 4 .any ((OpenSpec.ofChange Rows.codeTakesSpec).preRow enc Tryd.prog Tryd.f4 Rows.codeTakesRow.domain false Rows.codeTakesRow.laid) (((OpenSpec.ofChange Rows.codeTakesSpec).at F).post enc Tryd.prog Tryd.f4 false true false false) := by
  obtain ⟨places, hx⟩ := reads os enc
  refine returnsInHanded_of_row (C := Tryd.checked) (s := OpenSpec.ofChange Rows.codeTakesSpec) own started (by kernel_rfl) Tryd.func4
    (witness_row_atRef (enc := enc) (C := Tryd.checked) false (Given.laidWorld os) #[.agg #[.int .i64 0, .int .i64 0, .int .i64 0, .slice none 0 0]] rfl (by kernel_rfl) (by kernel_rfl) (by kernel_rfl)
      (OpenSpec.preRow_of_cond 8 hx (by kernel_rfl) (fun k hk => by cases hk) (by kernel_rfl) (Given.laid_met os _))) ?_
  intro W base args ds gs before hval0 hW _ hcond hsz0 hL hS _
  have hval : ∀ (j : Nat) t v, Tryd.f4.params[j]? = some t → args[j]? = some v → Value.okWide Tryd.prog W .any base t v := hval0
  have hW' := hW
  obtain ⟨p, q, hA0, hV, rfl, hfz, hnd⟩ := hW
  have hA : DataW.TrodAll enc Tryd.prog W 0 (fun _ => true) true Tryd.f4.params.toList args.toList ds p := hA0
  rw [Tryd.params4] at hA hval
  obtain ⟨v0, vs0, d0, ds0, p0, q0, hargs, rfl, rfl, h0, r0⟩ := trodAll_cons hA
  obtain ⟨rfl, rfl, rfl⟩ := trodAll_nil r0
  obtain rfl : args = #[v0] := by cases args; simp_all
  obtain ⟨rfl, rfl⟩ := trodVars_none hV
  have k0 := h0
  have lt0 : ∀ x ∈ p0, x.block < W.heap.size := by obtain ⟨m, hm⟩ := k0; exact DataW.trod_lt m _ _ _ hm
  obtain ⟨cs0, rfl, hsz⟩ := okWide_struct Tryd.underlying28 (hval 0 28 v0 rfl rfl)
  obtain ⟨fuel, hf⟩ := h0
  have hsz1 : (DataW.weightsEach Tryd.prog (Tryd.f4.params.toList ++ Rows.codeTakesSpec.plain.varTypes Tryd.prog) ([d0] ++ [])).all (· ≤ reachBytes) = true := hsz0
  rw [Tryd.params4] at hsz1
  obtain ⟨a, hk, hwf⟩ := Given.opens28 W H enc _ _ _ _ _ _ hf (fun k hk => by
    have := List.all_eq_true.1 hsz1 k (by
      show k ∈ DataW.weightsEach Tryd.prog (28 :: _) (d0 :: _)
      unfold DataW.weightsEach
      exact List.mem_append_left _ hk)
    exact of_decide_eq_true this)
  obtain ⟨A3, c3, hcs, hl3, hr3⟩ := Print.k28_open hk
  have hcs0 : cs0 = #[.int .i64 a.f0, .int .i64 a.f1, .int .i64 a.f2, .slice A3 a.f3.length c3] := by
    apply Array.ext'
    have : cs0.toList = [.int .i64 a.f0, .int .i64 a.f1, .int .i64 a.f2, .slice A3 a.f3.length c3] := hcs
    rw [this]
  subst hcs0
  have hb1 : -9223372036854775808 ≤ a.f1 ∧ a.f1 ≤ 9223372036854775807 := Given.wfN_range hwf.2.1
  clear hA0 hval0
  refine (Given.takes_walk a.f0 a.f1 a.f2 A3 c3 a.f3 W (Given.lw_of hL hS) hr3 hl3 hb1 (by have := hwf.2.2.2.2; omega)).mono fun e W' ⟨he, bel⟩ => ?_
  subst he
  exact ⟨_, rfl, _, _, _, [], _, [], hW', trodAll_mk1 (shut_bool Tryd.underlying4 _), (trodAll_cons_mk (Below.trod laidOut (by kernel_rfl) (of_decide_eq_true (by kernel_rfl)) k0 bel lt0) trodAll_mk0), rfl, bel.frame _, fun h => by cases h⟩
theorem said : Rows.CodeTakesSaid :=
  OpenClaim.holds_of_cond 4 Tryd.f4 rfl rfl rfl rfl rfl rfl rfl ⟨rfl, rfl, rfl, rfl, rfl⟩ rfl rfl rfl rfl rfl (by kernel_rfl) Tryd.func4 (by kernel_rfl)
    (of_decide_eq_true (by kernel_rfl)) (by unfold Func.isWrapper; first | (rw [if_pos (by decide +kernel)]; kernel_rfl) | (rw [if_neg (by decide +kernel)]; exact ⟨rfl, rfl⟩))
    (fun os started H enc _ F => by rw [OpenClaim.pre_eq_preRow]; exact lifted os started H enc F)
theorem plain (f : FuncId) (fn : Func) (hf : Tryd.pinned.checked.prog.funcNamed "squint/squintlaw08.CodeTakes" = some f) (hfn : Tryd.pinned.checked.prog.funcs[f]? = some fn) :
    true = Tryd.pinned.checked.prog.looks [] ∧ ∀ (j : Nat) t, fn.params[j]? = some t → Tryd.pinned.checked.prog.wantsStandIn t = false := by
  obtain rfl : f = 4 := Option.some.inj ((show Tryd.prog.funcNamed "squint/squintlaw08.CodeTakes" = some 4 by kernel_rfl).symm.trans hf) |>.symm
  obtain rfl : fn = Tryd.f4 := (Option.some.inj (Tryd.func4.symm.trans hfn)).symm
  refine ⟨by kernel_rfl, fun j t ht => ?_⟩
  rw [Tryd.params4] at ht
  have hm := Array.mem_of_getElem? ht
  simp only [List.mem_toArray, List.mem_cons, List.not_mem_nil, or_false] at hm
  rcases hm with rfl
  · exact (show Tryd.prog.wantsStandIn 28 = false by kernel_rfl)
theorem card : Rows.CodeTakesCardSaid :=
  Claim7.holds_tied_plain_at .later [] _ _ _ _ said (fun _ h => by cases h) (by kernel_rfl) (fun _ h => by cases h) codeTakes_row_tie rfl ⟨rfl, rfl⟩ (by kernel_rfl) rfl plain (by kernel_rfl)
#print axioms card
end Go.Proofs.YtfkfgjmhcfagkaaDoor.codeTakes
namespace Go.Proofs.YtfkfgjmhcfagkaaDoor
/-- The card, under a short name, for the claim. -/
theorem codeTakes_holds : Rows.CodeTakesCardSaid := codeTakes.card
end Go.Proofs.YtfkfgjmhcfagkaaDoor
