/- PostLaws: nobody meets themselves, pairs rise, each is of two arms that fit; who goes away takes their own pairs along, and no others; turned round, all meet the other way: for every list and every number, no condition. -/
import Derived.Test.YtokbonceeglciaaRows
import Derived.Test.YtokbonceeglciaaPlD
import Derived.Test.YtokbonceeglciaaPlC
import Derived.WalkKit
import Derived.ProofKit
import Derived.OpenShut
import Derived.ShutString
import Derived.ChangeOld
import Derived.Below
import Derived.SizedLaws
section
namespace Go.Proofs.Ytokbonceeglciaa.postLaws
open Go.ChangeShapes Go.WideShapes Go.ChangeAt Go.RowKit
open Go.ChangeMaps (open_string shut_string)
set_option linter.unusedVariables false
set_option linter.unusedSimpArgs false
theorem own : ownKnob Try.prog.godebug = none := by kernel_rfl
theorem laidOut : laidOutB Try.prog = true := by kernel_rfl
set_option maxRecDepth 100000 in
theorem lifted (os : Os) (started : os.Started) (H : Type) (enc : TypeId × Value → H) :
    ReturnsInHanded {} Try.checked os 4 .any (Rows.postLawsSpec.pre6 enc Try.prog Try.f4 Rows.postLawsRow.domain false) (Rows.postLawsSpec.post enc Try.prog Try.f4 false true false false) := by
  refine returnsInHanded_of_change_sized (C := Try.checked) own started (by kernel_rfl) Try.func4
    (ChangeSpec.witness6 (enc := enc) (C := Try.checked) false ⟨#[], #[.slice none 0 0, .int .i64 0], []⟩ 8 (by kernel_rfl) (by kernel_rfl) (by kernel_rfl) (by kernel_rfl)) ?_
  intro W base args ds gs before hval0 hW hcnd hsz0 _
  have hval : ∀ (j : Nat) t v, Try.f4.params[j]? = some t → args[j]? = some v → Value.okWide Try.prog W .any base t v := hval0
  have hW' := hW
  obtain ⟨p, q, hA0, hV, rfl, hfz, hnd⟩ := hW
  have hA : DataW.TrodAll enc Try.prog W 0 (fun _ => true) true Try.f4.params.toList args.toList ds p := hA0
  rw [Try.params4] at hA hval
  obtain ⟨v0, vs0, d0, ds0, p0, q0, hargs, rfl, rfl, h0, r0⟩ := trodAll_cons hA
  obtain ⟨v1, vs1, d1, ds1, p1, q1, rfl, rfl, rfl, h1, r1⟩ := trodAll_cons r0
  obtain ⟨rfl, rfl, rfl⟩ := trodAll_nil r1
  obtain rfl : args = #[v0, v1] := by cases args; simp_all
  obtain ⟨rfl, rfl⟩ := trodVars_none hV
  have hsz1 : (DataW.weightsEach Try.prog (Try.f4.params.toList ++ Rows.postLawsSpec.plain.varTypes Try.prog) ([d0, d1] ++ [])).all (· ≤ reachBytes) = true := hsz0
  rw [Try.params4] at hsz1
  have k0 := h0
  have lt0 : ∀ x ∈ p0, x.block < W.heap.size := by obtain ⟨m, hm⟩ := k0; exact DataW.trod_lt m _ _ _ hm
  obtain ⟨A0, n0, c0, rfl⟩ := okWide_slice Try.underlying22 (hval 0 22 v0 rfl rfl)
  obtain ⟨fuel0, hf0⟩ := h0
  obtain ⟨u0, hk0, hwf0⟩ := Given.opens22 W H enc _ _ _ _ _ _ hf0 (fun k hk => by
    have := List.all_eq_true.1 hsz1 k (by
      show k ∈ DataW.weightsEach Try.prog (22 :: _) (d0 :: _)
      unfold DataW.weightsEach
      exact List.mem_append_left _ hk)
    exact of_decide_eq_true this)
  obtain ⟨B0, e0, hcs0, hl0, hr0⟩ := hk0
  have hv0 : Value.slice A0 n0 c0 = .slice B0 u0.length e0 := (List.cons.inj hcs0).1
  cases hv0
  obtain ⟨n1, rfl, rfl, rfl, w1⟩ := open_int Try.underlying3 (hval 1 3 v1 rfl rfl) h1
  refine (Bk.laws_walk A0 c0 u0 n1 W hr0 hl0 hwf0 w1).mono fun e W' ⟨he, bel⟩ => ?_
  subst he
  exact ⟨_, rfl, _, _, _, [], _, [], hW', trodAll_mk1 (shut_bool Try.underlying4 _), (trodAll_cons_mk (Below.trod laidOut (by kernel_rfl) (of_decide_eq_true (by kernel_rfl)) k0 bel lt0) (trodAll_cons_mk (shut_int Try.underlying3 w1) trodAll_mk0)), rfl, bel.frame _, fun h => by cases h⟩
theorem over : Rows.postLawsRow.holds Try.pinned (OpenSpec.ofChange Rows.postLawsSpec) :=
  OpenClaim.holds_of_wide 4 Try.f4 rfl rfl rfl rfl rfl rfl rfl ⟨rfl, rfl, rfl, rfl, rfl⟩ rfl rfl rfl rfl rfl (by kernel_rfl) Try.func4 (by kernel_rfl)
    (of_decide_eq_true (by kernel_rfl)) (by unfold Func.isWrapper; first | (rw [if_pos (by decide +kernel)]; kernel_rfl) | (rw [if_neg (by decide +kernel)]; exact ⟨rfl, rfl⟩))
    (fun os started H enc _ => lifted os started H enc)
theorem proved : Rows.PostLawsSaid := over
#print axioms proved
end Go.Proofs.Ytokbonceeglciaa.postLaws
namespace Go.Proofs.Ytokbonceeglciaa
theorem postLaws_holds : Rows.PostLawsSaid := postLaws.proved
end Go.Proofs.Ytokbonceeglciaa
end
