/- The laws' head: the document's examples hold. -/
import Derived.Test.YtfkfgjmhcfagkaaDoorGivenP
import Derived.Test.YtfkfgjmhcfagkaaDoorPrint2
import Derived.Test.YtfkfgjmhcfagkaaDoorPrint3
namespace Go.Proofs.YtfkfgjmhcfagkaaDoor.Given
open Go.RowKit Go.Proofs.YtfkfgjmhcfagkaaDoorW.PrintWords Go.Proofs.YtfkfgjmhcfagkaaDoorW.PrintLast Go.Proofs.YtfkfgjmhcfagkaaDoorW.PrintMore Go.Proofs.YtfkfgjmhcfagkaaDoor.Print
set_option linter.unusedVariables false
set_option linter.unusedSimpArgs false

def shPs : List S57 := [⟨1, 2, 0, true, [⟨1, -5, 0, []⟩, ⟨27, 0, 0, [0, 2]⟩, ⟨25, 0, 0, []⟩]⟩]
def shTs : List S54 := [⟨6, [1, 0], true⟩]
theorem sh_print : printOf shPs shTs = (⟨#[116, 121, 112, 101, 32, 54, 32, 49, 32, 49, 32, 48, 10, 112, 114, 111, 103, 32, 49, 32, 50, 32, 48, 32, 49, 10, 105, 110, 116, 32, 45, 53, 10, 119, 97, 105, 116, 32, 48, 32, 50, 10, 114, 101, 116, 10]⟩, 0) := by kernel_rfl
theorem sh_size : (fullText shPs shTs).size + 1 ≤ 140737488355328 := by decide +kernel
theorem sh_wt : ∀ t ∈ shTs, wfT t := by
  intro t ht
  rw [shTs, List.mem_singleton] at ht
  subst ht
  exact ⟨by decide, rfl, by decide⟩
theorem sh_wp : ∀ p ∈ shPs, wfP p := by
  intro p hp
  rw [shPs, List.mem_singleton] at hp
  subst hp
  refine ⟨rfl, rfl, rfl, fun x hx => ?_⟩
  simp only [List.mem_cons, List.not_mem_nil, or_false] at hx
  rcases hx with rfl | rfl | rfl <;> exact ⟨by decide, by decide, by decide, by decide⟩
theorem sh_name : nameOf 27 = ⟨#[119, 97, 105, 116]⟩ := by kernel_rfl
theorem sh_op27 : opOf ⟨#[119, 97, 105, 116]⟩ = 27 := by kernel_rfl
theorem R_setRow {α : Type} {d : Kd α} {e base g t : Nat} {ok : Nat → Prop} {w : World} {v : Value} {xs : List α} {cs cs' : Array Value} (h : d.R e w base ok v xs) (hb : w.heap[g]? = some (.cells cs t (0, 0))) (ht : ∀ q, q ∈ e :: d.E → q ≠ t) : d.R e (w.setRow g cs') base ok v xs :=
  Kd.R_mono (Kd.R_step (Kd.R_types h hb ht) (fun k hk _ => setRow_other _ _ _ _ hk.2)) (fun _ hk => hk.1)
set_option maxRecDepth 100000 in
set_option maxHeartbeats 4000000 in
theorem shown_true (w : World) (hL : LW w) : Calls Tryd.prog 9 #[] w fun e w' => e = .returned (.bool true) ∧ Below w.heap.size w w' := by
  have hu28 := Tryd.underlying28
  have hu54 := Tryd.underlying54
  have hu57 := Tryd.underlying57
  have hu36 := Tryd.underlying36
  have HL := Aside0.mk hL
  have HB := Aside0.mk (Below.refl w.heap.size w)
  clear hL
  go_enter Tryd.func9, Tryd.ntmps9
  go_wp2_with (first
    | ((with_reducible refine gate_dst (N := 7) rfl ?_); refine Kd.R_lit (Kd.int .i64) (w0 := w) w.heap.size 3 ?hg (N := 7) ?hd (xs := ([1, 0] : List Int)) (inner := [.int .i64 1, .int .i64 0]) (ok := fun _ => True) (okp := fun _ => True) ?hr ?hp (fun _ hk => hk) trivial ?hb ?hs (by simp) ?_; (case hd => rfl); (case hg => rfl); (case hr => first | (go_simp; done) | (go_simp; rfl)); (case hp => exact (Reps.one (show Kd.M (Kd.int .i64) _ _ _ (1 : Int) [.int .i64 1] from rfl) (Reps.one (show Kd.M (Kd.int .i64) _ _ _ (0 : Int) [.int .i64 0] from rfl) (Reps.none _ _)))); (case hb => exact HB.out); (case hs => exact HB.out.size); intro v7 w7 ho hb hg_ hn_; obtain ⟨A7, c7, rfl⟩ := Kd.R_slice ho; have HR7 := Aside0.mk ho; clear HB; have HB := Aside0.mk hb; clear ho hb hg_ hn_)
    | ((with_reducible refine gate_dst (N := 9) rfl ?_); refine Kd.R_lit k54 (w0 := w) w.heap.size 54 ?hg (N := 9) ?hd (xs := ([⟨6, [1, 0], true⟩] : List S54)) (inner := [.int .i64 6, .slice A7 2 c7, .bool true]) (ok := fun _ => True) (okp := fun _ => True) ?hr ?hp (fun _ hk => hk) trivial ?hb ?hs (by simp) ?_; (case hd => rfl); (case hg => rfl); (case hr => first | (go_simp; done) | (go_simp; rfl)); (case hp => exact (Reps.c3 (k54_mkM _ _ _ ⟨6, [1, 0], true⟩ HR7.out) (Reps.none _ _))); (case hb => exact HB.out); (case hs => exact HB.out.size); intro v9 w9 ho hb hg_ hn_; obtain ⟨A9, c9, rfl⟩ := Kd.R_slice ho; have HR9 := Aside0.mk ho; have m_ := Aside0.mk (Kd.R_grown HR7.out hg_ (fun _ _ => by simp)); clear HR7; have HR7 := m_; clear m_; clear HB; have HB := Aside0.mk hb; clear ho hb hg_ hn_)
    | ((with_reducible refine gate_dst (N := 11) rfl ?_); refine Kd.R_lit (Kd.int .i64) (w0 := w) w.heap.size 3 ?hg (N := 11) ?hd (xs := ([0, 2] : List Int)) (inner := [.int .i64 0, .int .i64 2]) (ok := fun _ => True) (okp := fun _ => True) ?hr ?hp (fun _ hk => hk) trivial ?hb ?hs (by simp) ?_; (case hd => rfl); (case hg => rfl); (case hr => first | (go_simp; done) | (go_simp; rfl)); (case hp => exact (Reps.one (show Kd.M (Kd.int .i64) _ _ _ (0 : Int) [.int .i64 0] from rfl) (Reps.one (show Kd.M (Kd.int .i64) _ _ _ (2 : Int) [.int .i64 2] from rfl) (Reps.none _ _)))); (case hb => exact HB.out); (case hs => exact HB.out.size); intro v11 w11 ho hb hg_ hn_; obtain ⟨A11, c11, rfl⟩ := Kd.R_slice ho; have HR11 := Aside0.mk ho; have m_ := Aside0.mk (Kd.R_grown HR7.out hg_ (fun _ _ => by simp)); clear HR7; have HR7 := m_; clear m_; have m_ := Aside0.mk (Kd.R_grown HR9.out hg_ (fun _ _ => by simp)); clear HR9; have HR9 := m_; clear m_; clear HB; have HB := Aside0.mk hb; clear ho hb hg_ hn_)
    | ((with_reducible refine gate_dst (N := 14) rfl ?_); refine Kd.R_lit k28 (w0 := w) w.heap.size 28 ?hg (N := 14) ?hd (xs := ([⟨1, -5, 0, []⟩, ⟨27, 0, 0, [0, 2]⟩, ⟨25, 0, 0, []⟩] : List S28)) (inner := [.int .i64 1, .int .i64 (-5), .int .i64 0, .slice none 0 0, .int .i64 27, .int .i64 0, .int .i64 0, .slice A11 2 c11, .int .i64 25, .int .i64 0, .int .i64 0, .slice none 0 0]) (ok := fun _ => True) (okp := fun _ => True) ?hr ?hp (fun _ hk => hk) trivial ?hb ?hs (by simp) ?_; (case hd => rfl); (case hg => rfl); (case hr => first | (go_simp; done) | (go_simp; rfl)); (case hp => exact (Reps.c4 (k28_mkM _ _ _ ⟨1, -5, 0, []⟩ (Kd.R_nil _ _ _ _ _)) (Reps.c4 (k28_mkM _ _ _ ⟨27, 0, 0, [0, 2]⟩ HR11.out) (Reps.c4 (k28_mkM _ _ _ ⟨25, 0, 0, []⟩ (Kd.R_nil _ _ _ _ _)) (Reps.none _ _))))); (case hb => exact HB.out); (case hs => exact HB.out.size); intro v14 w14 ho hb hg_ hn_; obtain ⟨A14, c14, rfl⟩ := Kd.R_slice ho; have HR14 := Aside0.mk ho; have m_ := Aside0.mk (Kd.R_grown HR7.out hg_ (fun _ _ => by simp)); clear HR7; have HR7 := m_; clear m_; have m_ := Aside0.mk (Kd.R_grown HR9.out hg_ (fun _ _ => by simp)); clear HR9; have HR9 := m_; clear m_; have m_ := Aside0.mk (Kd.R_grown HR11.out hg_ (fun _ _ => by simp)); clear HR11; have HR11 := m_; clear m_; clear HB; have HB := Aside0.mk hb; clear ho hb hg_ hn_)
    | ((with_reducible refine gate_dst (N := 16) rfl ?_); refine Kd.R_lit k57 (w0 := w) w.heap.size 57 ?hg (N := 16) ?hd (xs := ([⟨1, 2, 0, true, [⟨1, -5, 0, []⟩, ⟨27, 0, 0, [0, 2]⟩, ⟨25, 0, 0, []⟩]⟩] : List S57)) (inner := [.int .i64 1, .int .i64 2, .int .i64 0, .bool true, .slice A14 3 c14]) (ok := fun _ => True) (okp := fun _ => True) ?hr ?hp (fun _ hk => hk) trivial ?hb ?hs (by simp) ?_; (case hd => rfl); (case hg => rfl); (case hr => first | (go_simp; done) | (go_simp; rfl)); (case hp => exact (Reps.c5 (k57_mkM _ _ _ ⟨1, 2, 0, true, [⟨1, -5, 0, []⟩, ⟨27, 0, 0, [0, 2]⟩, ⟨25, 0, 0, []⟩]⟩ HR14.out) (Reps.none _ _))); (case hb => exact HB.out); (case hs => exact HB.out.size); intro v16 w16 ho hb hg_ hn_; obtain ⟨A16, c16, rfl⟩ := Kd.R_slice ho; have HR16 := Aside0.mk ho; have m_ := Aside0.mk (Kd.R_grown HR9.out hg_ (fun _ _ => by simp)); clear HR9; have HR9 := m_; clear m_; have m_ := Aside0.mk (Kd.R_grown HR14.out hg_ (fun _ _ => by simp)); clear HR14; have HR14 := m_; clear m_; clear HB; have HB := Aside0.mk hb; clear ho hb hg_ hn_)
    | ((with_reducible refine gate_dst (N := 1) rfl ?_); refine box_event ?hg (N := 1) ?hd (cs := #[.slice none 0 0, .slice none 0 0]) (t := 36) ?hr ?_; (case hd => rfl); (case hg => rfl); (case hr => first | (go_simp; done) | (go_simp; rfl)); intro g1 hg w1 hbox hb; have BK1 := Aside0.mk hbox; have GE1 := Aside0.mk (show w.heap.size ≤ g1 by rw [hg]; exact HB.out.size); have m_ := Aside0.mk (Kd.R_below HR9.out hb); clear HR9; have HR9 := m_; clear m_; have m_ := Aside0.mk (Kd.R_below HR16.out hb); clear HR16; have HR16 := m_; clear m_; have n3_ := Aside0.mk (below_then HB.out HB.out.size hb); clear HB; have HB := n3_; clear n3_ hg hbox hb)
    | (refine wpList_store_row rfl 36 (.tmp 1) (.tmp 17) rfl g1 #[.slice A16 1 c16, .slice A9 1 c9] rfl rfl 36 _ BK1.out (by kernel_rfl) rfl (by kernel_rfl) ?_; have n0_ : Aside0 ((w1.setRow g1 #[.slice A16 1 c16, .slice A9 1 c9]).heap[g1]? = some (.cells #[.slice A16 1 c16, .slice A9 1 c9] 36 (0, 0))) := ⟨setRow_heap _ _ _ _ _ _ BK1.out⟩; have n1_ := Aside0.mk (below_setRow HB.out GE1.out #[.slice A16 1 c16, .slice A9 1 c9]); have r9_ := Aside0.mk (R_setRow HR9.out BK1.out (by decide) (cs' := #[.slice A16 1 c16, .slice A9 1 c9])); have r16_ := Aside0.mk (R_setRow HR16.out BK1.out (by decide) (cs' := #[.slice A16 1 c16, .slice A9 1 c9])); generalize w1.setRow g1 #[.slice A16 1 c16, .slice A9 1 c9] = ws1 at n0_ n1_ r9_ r16_ ⊢; clear BK1 HB; have BK1 := n0_; have HB := n1_; clear n0_ n1_; clear HR9; have HR9 := r9_; clear r9_; clear HR16; have HR16 := r16_; clear r16_; have y0 : ws1.cell? ⟨g1, 0, none⟩ = some (.slice A16 1 c16) := (blk_cell BK1.out 0).trans rfl; have y1 : ws1.cell? ⟨g1, 1, none⟩ = some (.slice A9 1 c9) := (blk_cell BK1.out 1).trans rfl))
  clear hu54 hu57
  have m16 := Aside0.mk (Kd.R_reads' HR16.out).2.2
  have m9 := Aside0.mk (Kd.R_reads' HR9.out).2.2
  clear HR16 HR9 HR14 HR11 HR7
  go_wp2_with (first
    | (go_at_call 22; refine (print_any A16 c16 shPs A9 c9 shTs _ m16.out m9.out (HL.out.below HB.out) sh_wt sh_wp sh_size).mono ?_; rw [sh_print]; rintro e wa ⟨rfl, hb⟩; have n3_ := Aside0.mk (below_then HB.out HB.out.size hb); clear HB hb; have HB := n3_; clear n3_))
  clear m16 m9 y0 y1 BK1
  go_wp2_with (first
    | ((with_reducible refine gate_dst (N := 4) rfl ?_); refine box_event ?hg (N := 4) ?hd (cs := #[.slice none 0 0, .slice none 0 0]) (t := 36) ?hr ?_; (case hd => rfl); (case hg => rfl); (case hr => first | (go_simp; done) | (go_simp; rfl)); intro g4 hg wb hbox hb; have BK4 := Aside0.mk hbox; have GE4 := Aside0.mk (show w.heap.size ≤ g4 by rw [hg]; exact HB.out.size); have n3_ := Aside0.mk (below_then HB.out HB.out.size hb); clear HB; have HB := n3_; clear n3_ hg hbox hb)
    | (refine wpList_store_row rfl 36 (.tmp 4) (.tmp 25) rfl g4 #[.slice none 0 0, .slice none 0 0] rfl rfl 36 _ BK4.out (by kernel_rfl) rfl (by kernel_rfl) ?_; have n0_ : Aside0 ((wb.setRow g4 #[.slice none 0 0, .slice none 0 0]).heap[g4]? = some (.cells #[.slice none 0 0, .slice none 0 0] 36 (0, 0))) := ⟨setRow_heap _ _ _ _ _ _ BK4.out⟩; have n1_ := Aside0.mk (below_setRow HB.out GE4.out #[.slice none 0 0, .slice none 0 0]); generalize wb.setRow g4 #[.slice none 0 0, .slice none 0 0] = ws4 at n0_ n1_ ⊢; clear BK4 HB; have BK4 := n0_; have HB := n1_; clear n0_ n1_)
    | (go_at_call 26; refine (parse_shown _ (HL.out.below HB.out)).mono ?_; rintro e wc ⟨rfl, hb⟩; have n3_ := Aside0.mk (below_then HB.out HB.out.size hb); clear HB hb; have HB := n3_; clear n3_))
  clear BK4
  have PA := Aside0.mk True.intro
  go_wp2_with (first
    | (go_at_call 10; refine (name_any 27 _).mono ?_; rw [sh_name]; rintro e wd ⟨rfl, hb⟩; have n3_ := Aside0.mk (below_then HB.out HB.out.size hb); clear HB hb; have HB := n3_; clear n3_)
    | (go_at_call 11; refine (op_any _ _).mono ?_; rw [sh_op27]; rintro e we ⟨rfl, hb⟩; have n3_ := Aside0.mk (below_then HB.out HB.out.size hb); clear HB hb; have HB := n3_; clear n3_)
    | (go_at_call 15; clear PA; refine (code_Pops.calls 5 23 2 0 none 0 [] 3 _ (Kd.C_nil _ _) (Nat.le_refl _) (by kernel_rfl)).mono ?_; rintro e wf ⟨rfl, hb⟩; have n3_ := Aside0.mk (below_then HB.out HB.out.size hb); clear HB hb; have HB := n3_; clear n3_)
    | (go_at_call 15; refine (code_Pops.calls 5 23 9223372036854775807 0 none 0 [] 9223372036854775807 _ (Kd.C_nil _ _) (Nat.le_refl _) (by kernel_rfl)).mono ?_; rintro e wf ⟨rfl, hb⟩; have n3_ := Aside0.mk (below_then HB.out HB.out.size hb); clear HB hb; have HB := n3_; clear n3_)
    | (go_at_call 16; refine (code_Pushes.calls 5 23 0 1 none 0 [] 1 _ (Kd.C_nil _ _) (Nat.le_refl _) (by kernel_rfl)).mono ?_; rintro e wf ⟨rfl, hb⟩; have n3_ := Aside0.mk (below_then HB.out HB.out.size hb); clear HB hb; have HB := n3_; clear n3_))
  go_returns
  exact ⟨rfl, HB.out⟩
end Go.Proofs.YtfkfgjmhcfagkaaDoor.Given
