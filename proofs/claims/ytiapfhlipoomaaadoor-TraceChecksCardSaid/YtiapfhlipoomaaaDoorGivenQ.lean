/- The laws' head: the document's examples hold. -/
import Derived.Test.YtiapfhlipoomaaaDoorGivenK
namespace Go.Proofs.YtiapfhlipoomaaaDoor.Given
open Go.RowKit Go.Proofs.YtiapfhlipoomaaaDoorW.PrintWords Go.Proofs.YtiapfhlipoomaaaDoorW.PrintLast Go.Proofs.YtiapfhlipoomaaaDoorW.PrintMore Go.Proofs.YtiapfhlipoomaaaDoor.Print
set_option linter.unusedVariables false
set_option linter.unusedSimpArgs false

def shEvs : List S24 := [⟨1, 0, 0, 1, 0, 0, 0, []⟩, ⟨2, 1, 0, 0, 0, 3, 0, []⟩, ⟨9, 0, 0, 0, 0, 0, 0, [0, 2]⟩, ⟨6, 2, 0, 0, 0, 0, 2, []⟩, ⟨8, 0, 0, 0, 0, 0, 0, []⟩]
theorem sh_print : printOf shEvs = (⟨#[98, 111, 114, 110, 32, 48, 32, 49, 10, 109, 101, 101, 116, 32, 49, 32, 48, 32, 48, 32, 48, 32, 51, 10, 112, 114, 111, 98, 101, 32, 48, 32, 50, 10, 116, 114, 97, 112, 32, 50, 32, 105, 110, 100, 101, 120, 10, 105, 100, 108, 101, 10]⟩, 0) := by kernel_rfl
theorem sh_size : (textOf shEvs).size ≤ 1099511627776 := by decide +kernel
theorem sh_parse : parseOf ⟨#[101, 120, 105, 116, 32, 48, 10, 101, 120, 105, 116, 32, 48, 48, 10]⟩ = ([], 2, 180) := by kernel_rfl
theorem sh_rng : ∀ x ∈ shEvs, rngX x := by
  intro x hx
  simp only [shEvs, List.mem_cons, List.not_mem_nil, or_false] at hx
  rcases hx with rfl | rfl | rfl | rfl | rfl <;> refine ⟨fun o ho => ?_, fun n hn => ?_⟩ <;> first | (rcases o with _ | _ | _ | _ | _ | _ | _ | o <;> first | (show -9223372036854775808 ≤ (_ : Int) ∧ (_ : Int) ≤ 9223372036854775807; decide) | omega) | (simp at hn; try (rcases hn with rfl | rfl <;> decide))
theorem sh_check : checkOf ⟨5, -1, 0, 0, 0, 0, 0, []⟩ = 180 := by kernel_rfl
set_option maxRecDepth 100000 in
set_option maxHeartbeats 4000000 in
theorem shown_true (w : World) (hL : LW w) : Calls Tryd.prog 9 #[] w fun e w' => e = .returned (.bool true) ∧ Below w.heap.size w w' := by
  have hu24 := Tryd.underlying24
  have HL := Aside0.mk hL
  have HB := Aside0.mk (Below.refl w.heap.size w)
  clear hL
  go_enter Tryd.func9, Tryd.ntmps9
  go_wp2_with (first
    | ((with_reducible refine gate_dst (N := 9) rfl ?_); refine Kd.R_lit (Kd.int .i64) (w0 := w) w.heap.size 3 ?hg (N := 9) ?hd (xs := ([0, 2] : List Int)) (inner := [.int .i64 0, .int .i64 2]) (ok := fun _ => True) (okp := fun _ => True) ?hr ?hp (fun _ hk => hk) trivial ?hb ?hs (by simp) ?_; (case hd => rfl); (case hg => rfl); (case hr => first | (go_simp; done) | (go_simp; rfl)); (case hp => exact (Reps.one (show Kd.M (Kd.int .i64) _ _ _ (0 : Int) [.int .i64 0] from rfl) (Reps.one (show Kd.M (Kd.int .i64) _ _ _ (2 : Int) [.int .i64 2] from rfl) (Reps.none _ _)))); (case hb => exact HB.out); (case hs => exact HB.out.size); intro v9 w9 ho hb hg_ hn_; obtain ⟨A9, c9, rfl⟩ := Kd.R_slice ho; have HR9 := Aside0.mk ho; clear HB; have HB := Aside0.mk hb; clear ho hb hg_ hn_)
    | ((with_reducible refine gate_dst (N := 13) rfl ?_); refine Kd.R_lit k24 (w0 := w) w.heap.size 24 ?hg (N := 13) ?hd (xs := ([⟨1, 0, 0, 1, 0, 0, 0, []⟩, ⟨2, 1, 0, 0, 0, 3, 0, []⟩, ⟨9, 0, 0, 0, 0, 0, 0, [0, 2]⟩, ⟨6, 2, 0, 0, 0, 0, 2, []⟩, ⟨8, 0, 0, 0, 0, 0, 0, []⟩] : List S24)) (inner := [.int .i64 1, .int .i64 0, .int .i64 0, .int .i64 1, .int .i64 0, .int .i64 0, .int .i64 0, .slice none 0 0, .int .i64 2, .int .i64 1, .int .i64 0, .int .i64 0, .int .i64 0, .int .i64 3, .int .i64 0, .slice none 0 0, .int .i64 9, .int .i64 0, .int .i64 0, .int .i64 0, .int .i64 0, .int .i64 0, .int .i64 0, .slice A9 2 c9, .int .i64 6, .int .i64 2, .int .i64 0, .int .i64 0, .int .i64 0, .int .i64 0, .int .i64 2, .slice none 0 0, .int .i64 8, .int .i64 0, .int .i64 0, .int .i64 0, .int .i64 0, .int .i64 0, .int .i64 0, .slice none 0 0]) (ok := fun _ => True) (okp := fun _ => True) ?hr ?hp (fun _ hk => hk) trivial ?hb ?hs (by simp) ?_; (case hd => rfl); (case hg => rfl); (case hr => first | (go_simp; done) | (go_simp; rfl)); (case hp => exact (Reps.c8 (k24_mkM _ _ _ ⟨1, 0, 0, 1, 0, 0, 0, []⟩ (Kd.R_nil _ _ _ _ _)) (Reps.c8 (k24_mkM _ _ _ ⟨2, 1, 0, 0, 0, 3, 0, []⟩ (Kd.R_nil _ _ _ _ _)) (Reps.c8 (k24_mkM _ _ _ ⟨9, 0, 0, 0, 0, 0, 0, [0, 2]⟩ HR9.out) (Reps.c8 (k24_mkM _ _ _ ⟨6, 2, 0, 0, 0, 0, 2, []⟩ (Kd.R_nil _ _ _ _ _)) (Reps.c8 (k24_mkM _ _ _ ⟨8, 0, 0, 0, 0, 0, 0, []⟩ (Kd.R_nil _ _ _ _ _)) (Reps.none _ _))))))); (case hb => exact HB.out); (case hs => exact HB.out.size); intro v13 w13 ho hb hg_ hn_; obtain ⟨A13, c13, rfl⟩ := Kd.R_slice ho; have HR13 := Aside0.mk ho; have m_ := Aside0.mk (Kd.R_grown HR9.out hg_ (fun _ _ => by simp)); clear HR9; have HR9 := m_; clear m_; clear HB; have HB := Aside0.mk hb; clear ho hb hg_ hn_)
    | (go_at_call 14; refine (print_any A13 c13 shEvs _ (Kd.R_reads' HR13.out).2.2 (HL.out.below HB.out) sh_rng sh_size).mono ?_; rw [sh_print]; rintro e wa ⟨rfl, hb⟩; have n3_ := Aside0.mk (below_then HB.out HB.out.size hb); clear HB hb HR13 HR9; have HB := n3_; clear n3_)
    | (go_at_call 18; refine (parse_any _ _ (HL.out.below HB.out) (by decide)).mono ?_; rw [sh_parse]; rintro e wb ⟨Ab, cb, rfl, _, hb⟩; have n3_ := Aside0.mk (below_then HB.out HB.out.size hb); clear HB hb; have HB := n3_; clear n3_)
    | (go_at_call 10; refine (chk_any ⟨5, -1, 0, 0, 0, 0, 0, []⟩ none 0 _ (Kd.C_nil _ _) (Nat.le_refl _)).mono ?_; rw [sh_check]; rintro e wc ⟨rfl, hb⟩; have n3_ := Aside0.mk (below_then HB.out HB.out.size hb); clear HB hb; have HB := n3_; clear n3_))
  go_ret
  exact ⟨rfl, HB.out⟩
end Go.Proofs.YtiapfhlipoomaaaDoor.Given
