/- Of any events Print answers just the document's text, or its error, also of events that were written over since (TracePrints). Condition: the variables that the row lists hold what the program's text lays (the card ties them). -/
import Derived.Test.YtiapfhlipoomaaaDoorCards
import Derived.Test.YtiapfhlipoomaaaDoorTie
import Derived.Test.YtiapfhlipoomaaaDoorTpE
import Derived.Carry
import Derived.WalkKit
import Derived.ProofKit
import Derived.OpenShut
import Derived.ShutString
import Derived.ChangeOld
import Derived.Below
import Derived.SizedLaws
import Derived.Deep.DeepHandedRow
import Derived.Deep.DeepWitnessRowRef
section
namespace Go.Proofs.YtiapfhlipoomaaaDoor.tracePrints
open Go.ChangeShapes Go.WideShapes Go.ChangeAt Go.RowKit
open Go.ChangeMaps (open_string shut_string)
set_option linter.unusedVariables false
theorem own : ownKnob Tryd.prog.godebug = none := by kernel_rfl
theorem laidOut : laidOutB Tryd.prog = true := by kernel_rfl
set_option maxRecDepth 100000 in
theorem reads (os : Os) {H : Type} (enc : TypeId × Value → H) : ∃ places, DataW.whole enc Tryd.prog ((Given.laidWorld os).forCall (fun _ _ => 0) ⟨#[], #[.slice none 0 0, .slice none 0 0], []⟩).memory Tryd.f4.params.toList Rows.tracePrintsSpec.vars false #[.slice none 0 0, .slice none 0 0].toList 8 = some ([.nil, .nil], [], places) :=
  ⟨[], by kernel_rfl⟩
set_option maxRecDepth 100000 in
theorem lifted (os : Os) (started : os.Started) (H : Type) (enc : TypeId × Value → H) (F : Stop.Interp) :
    ReturnsInHanded {} Tryd.checked os 4 .any ((OpenSpec.ofChange Rows.tracePrintsSpec).preRow enc Tryd.prog Tryd.f4 Rows.tracePrintsRow.domain false Rows.tracePrintsRow.laid) (((OpenSpec.ofChange Rows.tracePrintsSpec).at F).post enc Tryd.prog Tryd.f4 false true false false) := by
  obtain ⟨places, hx⟩ := reads os enc
  refine returnsInHanded_of_row (C := Tryd.checked) (s := OpenSpec.ofChange Rows.tracePrintsSpec) own started (by kernel_rfl) Tryd.func4
    (witness_row_atRef (enc := enc) (C := Tryd.checked) false (Given.laidWorld os) #[.slice none 0 0, .slice none 0 0] rfl (by kernel_rfl) (by kernel_rfl) (by kernel_rfl)
      (OpenSpec.preRow_of_cond 8 hx (by kernel_rfl) (fun k hk => by cases hk) (by kernel_rfl) (Given.laid_met os _))) ?_
  intro W base args ds gs before hval0 hW _ hcond hsz0 hL hS _
  have hval : ∀ (j : Nat) t v, Tryd.f4.params[j]? = some t → args[j]? = some v → Value.okWide Tryd.prog W .any base t v := hval0
  have hW' := hW
  obtain ⟨p, q, hA0, hV, rfl, hfz, hnd⟩ := hW
  have hA : DataW.TrodAll enc Tryd.prog W 0 (fun _ => true) true Tryd.f4.params.toList args.toList ds p := hA0
  rw [Tryd.params4] at hA hval
  obtain ⟨v0, vs0, d0, ds0, p0, q0, hargs, rfl, rfl, h0, r0⟩ := trodAll_cons hA
  obtain ⟨v1, vs1, d1, ds1, p1, q1, rfl, rfl, rfl, h1, r1⟩ := trodAll_cons r0
  obtain ⟨rfl, rfl, rfl⟩ := trodAll_nil r1
  obtain rfl : args = #[v0, v1] := by cases args; simp_all
  obtain ⟨rfl, rfl⟩ := trodVars_none hV
  have hsz1 : (DataW.weightsEach Tryd.prog (Tryd.f4.params.toList ++ Rows.tracePrintsSpec.plain.varTypes Tryd.prog) ([d0, d1] ++ [])).all (· ≤ reachBytes) = true := hsz0
  rw [Tryd.params4] at hsz1
  have k0 := h0
  have lt0 : ∀ x ∈ p0, x.block < W.heap.size := by obtain ⟨m, hm⟩ := k0; exact DataW.trod_lt m _ _ _ hm
  obtain ⟨A0, n0, c0, rfl⟩ := okWide_slice Tryd.underlying29 (hval 0 29 v0 rfl rfl)
  obtain ⟨fuel0, hf0⟩ := h0
  obtain ⟨u0, hk0, hwf0⟩ := Given.opens29 W H enc _ _ _ _ _ _ hf0 (fun k hk => by
    have := List.all_eq_true.1 hsz1 k (by
      show k ∈ DataW.weightsEach Tryd.prog (29 :: _) (d0 :: _)
      unfold DataW.weightsEach
      exact List.mem_append_left _ hk)
    exact of_decide_eq_true this)
  obtain ⟨B0, e0, hcs0, hl0, hr0⟩ := hk0
  have hv0 : Value.slice A0 n0 c0 = .slice B0 u0.length e0 := (List.cons.inj hcs0).1
  cases hv0
  have k1 := h1
  have lt1 : ∀ x ∈ p1, x.block < W.heap.size := by obtain ⟨m, hm⟩ := k1; exact DataW.trod_lt m _ _ _ hm
  obtain ⟨A1, n1, c1, rfl⟩ := okWide_slice Tryd.underlying29 (hval 1 29 v1 rfl rfl)
  obtain ⟨fuel1, hf1⟩ := h1
  obtain ⟨u1, hk1, hwf1⟩ := Given.opens29 W H enc _ _ _ _ _ _ hf1 (fun k hk => by
    have := List.all_eq_true.1 hsz1 k (by
      show k ∈ DataW.weightsEach Tryd.prog (29 :: 29 :: _) (d0 :: d1 :: _)
      unfold DataW.weightsEach
      refine List.mem_append_right _ ?_
      unfold DataW.weightsEach
      exact List.mem_append_left _ hk)
    exact of_decide_eq_true this)
  obtain ⟨B1, e1, hcs1, hl1, hr1⟩ := hk1
  have hv1 : Value.slice A1 n1 c1 = .slice B1 u1.length e1 := (List.cons.inj hcs1).1
  cases hv1
  obtain ⟨g0, m0, _⟩ := Given.evs_rng hwf0
  obtain ⟨g1, m1, _⟩ := Given.evs_rng hwf1
  clear hA0 hval0
  refine (Given.prints_walk A0 A1 c0 c1 u0 u1 W hr0 hr1 hl0 hl1 (Given.lw_of hL hS) g0 g1 m0 m1).mono fun e W' ⟨he, bel⟩ => ?_
  subst he
  exact ⟨_, rfl, _, _, _, [], _, [], hW', trodAll_mk1 (shut_bool Tryd.underlying4 _), (trodAll_cons_mk (Below.trod laidOut (by kernel_rfl) (of_decide_eq_true (by kernel_rfl)) k0 bel lt0) (trodAll_cons_mk (Below.trod laidOut (by kernel_rfl) (of_decide_eq_true (by kernel_rfl)) k1 bel lt1) trodAll_mk0)), rfl, bel.frame _, fun h => by cases h⟩
theorem said : Rows.TracePrintsSaid :=
  OpenClaim.holds_of_cond 4 Tryd.f4 rfl rfl rfl rfl rfl rfl rfl ⟨rfl, rfl, rfl, rfl, rfl⟩ rfl rfl rfl rfl rfl (by kernel_rfl) Tryd.func4 (by kernel_rfl)
    (of_decide_eq_true (by kernel_rfl)) (by unfold Func.isWrapper; first | (rw [if_pos (by decide +kernel)]; kernel_rfl) | (rw [if_neg (by decide +kernel)]; exact ⟨rfl, rfl⟩))
    (fun os started H enc _ F => by rw [OpenClaim.pre_eq_preRow]; exact lifted os started H enc F)
theorem plain (f : FuncId) (fn : Func) (hf : Tryd.pinned.checked.prog.funcNamed "squint/squintlaw18.TracePrints" = some f) (hfn : Tryd.pinned.checked.prog.funcs[f]? = some fn) :
    true = Tryd.pinned.checked.prog.looks [] ∧ ∀ (j : Nat) t, fn.params[j]? = some t → Tryd.pinned.checked.prog.wantsStandIn t = false := by
  obtain rfl : f = 4 := Option.some.inj ((show Tryd.prog.funcNamed "squint/squintlaw18.TracePrints" = some 4 by kernel_rfl).symm.trans hf) |>.symm
  obtain rfl : fn = Tryd.f4 := (Option.some.inj (Tryd.func4.symm.trans hfn)).symm
  refine ⟨by kernel_rfl, fun j t ht => ?_⟩
  rw [Tryd.params4] at ht
  have hm := Array.mem_of_getElem? ht
  simp only [List.mem_toArray, List.mem_cons, List.not_mem_nil, or_false] at hm
  rcases hm with rfl | rfl
  · exact (show Tryd.prog.wantsStandIn 29 = false by kernel_rfl)
  · exact (show Tryd.prog.wantsStandIn 29 = false by kernel_rfl)
theorem card : Rows.TracePrintsCardSaid :=
  Claim7.holds_tied_plain_at .later [] _ _ _ _ said (fun _ h => by cases h) (by kernel_rfl) (fun _ h => by cases h) tracePrints_row_tie rfl ⟨rfl, rfl⟩ (by kernel_rfl) rfl plain (by kernel_rfl)
#print axioms card
end Go.Proofs.YtiapfhlipoomaaaDoor.tracePrints
namespace Go.Proofs.YtiapfhlipoomaaaDoor
theorem tracePrints_holds : Rows.TracePrintsCardSaid := tracePrints.card
end Go.Proofs.YtiapfhlipoomaaaDoor
end
