/- code.add at a line that begins a program. -/
import Derived.Test.YtfkfgjmhcfagkaaDoorGivenN
namespace Go.Proofs.YtfkfgjmhcfagkaaDoor.Given
open Go.RowKit Go.Proofs.YtfkfgjmhcfagkaaDoorW.PrintWords Go.Proofs.YtfkfgjmhcfagkaaDoorW.PrintLast Go.Proofs.YtfkfgjmhcfagkaaDoorW.PrintMore Go.Proofs.YtfkfgjmhcfagkaaDoor.Print
set_option linter.unusedVariables false
set_option linter.unusedSimpArgs false

section
variable {P : Program} {ops : Array Oper} {o : Oper} {a : Act} {Q : Exit → Act → World → Prop} {Kc : Act → World → Prop}
/-- A store as one step of a region that draws. -/
theorem store_step {W w1 : World} (hw : Region.wanted o (yielded ops a.tmps) = true) (hN : o.dst = none) (hrun : (execOp a.eval o).run P W = .ok .skip w1) (h : Kc a w1) : if Region.wanted o (yielded ops a.tmps) = true then Oper.wp P o a W Kc Q else Kc (a.put none undef) W := by
  rw [if_pos hw]
  unfold Oper.wp
  rw [hrun]
  show Kc (a.put o.dst undef) w1
  rw [hN]
  exact h
end
theorem num_cell {w : World} {base gn n c : Nat} {ok : Nat → Prop} {ns : List Int} (h : (Kd.int .i64).R 3 w base ok (.slice (some ⟨gn, 0, none⟩) n c) ns) (j : Nat) (x : Int) (hx : ns[j]? = some x) : w.cell? ⟨gn, j, none⟩ = some (.int .i64 x) := by
  obtain ⟨A, c', e, hl, hr⟩ := Kd.R_reads h
  injection e with e1 e2 e3
  subst e1
  obtain ⟨ad, e, hc⟩ := num_at hr j x hx
  injection e with e
  subst e
  rw [← hc, Addr.add]
  by_cases hj : j = 0
  · rw [if_pos hj, hj]
  · rw [if_neg hj, Nat.zero_add]
theorem info57 : (Tryd.prog.info? 57).map (fun i => (i.zero, i.size, i.bytes)) = some (some (.agg #[(.int .i64 0), (.int .i64 0), (.int .i64 0), (.bool false), (.slice none 0 0)]), 5, 56) := by kernel_rfl
theorem fr_set {base g : Nat} {w w1 : World} (h : Below base w w1) (j : Nat) (v : Value) : Fr base g w (w1.setCell ⟨g, j, none⟩ v) :=
  ⟨h.os, h.tape, h.output, by simpa [World.setCell] using h.size, fun k hk hkg => (Below.heap_setCell w1 ⟨g, j, none⟩ v k hkg).trans (h.block k hk)⟩
theorem ne57 : ∀ q, q ∈ 3 :: (Kd.int .i64).E → q ≠ 57 := by decide
theorem ne54 : ∀ q, q ∈ 54 :: k54q.E → q ≠ 57 := by decide
theorem ne54u : ∀ q, q ∈ 54 :: k54q.E → q ≠ 36 := by decide
theorem ne57u : ∀ q, q ∈ 57 :: k57q.E → q ≠ 36 := by decide
def a12T : Bool × List (List Nat × List Nat) := (true, [([], []), ([], []), ([1], [1]), ([2], [2]), ([3], [3]), ([], []), ([5], [5]), ([6], [6]), ([], []), ([8], [8]), ([9], [9]), ([], []), ([11], [11]), ([12], [12]), ([], []), ([14], [14]), ([15], [15]), ([16], [16]), ([7, 10, 13, 17], [7, 10, 13, 17]), ([18], [18]), ([4, 19], [4, 19]), ([0, 0, 1, 2, 3, 4, 5, 6, 7, 8, 9, 10, 11, 12, 13, 14, 15, 16, 17, 18, 19, 20], [0]), ([21, 0, 1, 2, 3, 4, 5, 6, 7, 8, 9, 10, 11, 12, 13, 14, 15, 16, 17, 18, 19, 20], [21]), ([22, 20, 20, 0, 1, 2, 3, 4, 5, 6, 7, 8, 9, 10, 11, 12, 13, 14, 15, 16, 17, 18, 19, 20], [20, 22])])
def a12B : List Nat := [0, 0, 2, 6, 14, 0, 32, 96, 0, 256, 768, 0, 2048, 6144, 0, 16384, 49152, 114688, 262112, 524256, 1048574, 2097151, 4194303, 8388607]
theorem a12tab : rtab .any (opsOf Tryd.f49 12) = a12T := by kernel_rfl
theorem a12bits : waitsOk a12T.2 a12B = true := by kernel_rfl

set_option maxRecDepth 100000 in
set_option maxHeartbeats 4000000 in
theorem add_prog0 (base g : Nat) (ps : List S57) (ts : List S54) (s : ByteArray) (a b c : Int) (w : World) (hL : LW w) (hs : s.size < 4294967281) (h : readOf s = some (progWord, [a, b, c, 0])) (hU : UnitAt w base g ps ts) (hgb : g < base) (hbw : base ≤ w.heap.size) (hps : ps.length + 1 ≤ 4294967296) :
    Calls Tryd.prog 49 #[.pointer (some ⟨g, 0, none⟩), .string s] w fun e w' => e = .returned (.bool true) ∧ UnitAt w' base g (ps ++ [⟨a, b, c, false, []⟩]) ts ∧ Fr base g w w' := by
  have hu57 := Tryd.underlying57
  rw [show progWord = ⟨#[112, 114, 111, 103]⟩ from rfl] at h
  obtain ⟨P, T, okP, okT, hbk, hP, hT, hap⟩ := hU
  have BK := Aside0.mk hbk
  have HP := Aside0.mk hP
  have HT := Aside0.mk hT
  have HAP := Aside0.mk hap
  have HL := Aside0.mk hL
  have HH := Aside0.mk h
  have HBW := Aside0.mk hbw
  have HGB := Aside0.mk hgb
  have HPS := Aside0.mk hps
  clear hbk hP hT hap hL h hbw hgb hps
  go_enter Tryd.func49, Tryd.ntmps49
  go_wp2_with (go_at_call 61; refine (read_yes s _ _ _ hs HL.out HH.out).mono ?_; rintro e w1 ⟨v, rfl, hr, hb⟩; obtain ⟨gn, cn, rfl, hgn, hgn2, hty⟩ := Kd.R_form hr (by simp); have HR := Aside0.mk hr; have HB := Aside0.mk hb; have m3 := Aside0.mk hgn; clear hr hb hgn hgn2 hty; have x3 : w1.cell? ⟨gn, 3, none⟩ = some (.int .i64 0) := num_cell HR.out 3 0 rfl)
  have n0_ := Aside0.mk (blk_drew (blk_below BK.out HB.out))
  have n1_ := Aside0.mk (Kd.R_drew HR.out)
  have n2_ := Aside0.mk (Kd.S_drew (Kd.S_below HP.out HB.out))
  have n3_ := Aside0.mk (Kd.S_drew (Kd.S_below HT.out HB.out))
  have n4_ := Aside0.mk (below_drew1 HB.out)
  refine start_ (n := 24) (S := fun w' => w'.cell? ⟨g, 0, none⟩ = some (P) ∧ w'.cell? ⟨gn, 0, none⟩ = some (.int .i64 a) ∧ w'.cell? ⟨gn, 1, none⟩ = some (.int .i64 b) ∧ w'.cell? ⟨gn, 2, none⟩ = some (.int .i64 c) ∧ w'.cell? ⟨gn, 3, none⟩ = some (.int .i64 0)) (ds := [23]) #[false, false, false, false, false, false, false, false, false, false, false, false, false, false, false, false, false, false, false, false, false, false, false, false] (by kernel_rfl) rfl rfl ⟨(blk_cell n0_.out 0).trans rfl, num_cell n1_.out 0 a rfl, num_cell n1_.out 1 b rfl, num_cell n1_.out 2 c rfl, num_cell n1_.out 3 0 rfl⟩ (fun hHeld => ?_)
  refine with_tabW a12tab a12bits (fun HT_ HW_ => ?_)
  generalize w1.drew = w2 at n0_ n1_ n2_ n3_ n4_ hHeld ⊢
  clear BK HR HP HT HB x3
  have BK := n0_
  have HR := n1_
  have HP := n2_
  have HT := n3_
  have HB := n4_
  clear n0_ n1_ n2_ n3_ n4_
  refine pure_ (i := 0) (N := some 81) (v := ?_) (a' := ?_) #[true, false, false, false, false, false, false, false, false, false, false, false, false, false, false, false, false, false, false, false, false, false, false, false] rfl rfl (any_of HT_.out (by kernel_rfl)) (fun _ _ _ h => h) (Or.inl ⟨by rfl, ?_⟩) ?_ ?_
  rotate_left
  · intro w'
    go_simp
    with_reducible rfl
  rotate_left
  · simp only [Act.put, List.setIfInBounds_toArray, List.set_cons_zero, List.set_cons_succ, i64_w, i32_w]
    rfl
  refine pure_ (i := 1) (N := some 82) (v := ?_) (a' := ?_) #[true, true, false, false, false, false, false, false, false, false, false, false, false, false, false, false, false, false, false, false, false, false, false, false] rfl rfl (any_of HT_.out (by kernel_rfl)) (fun _ _ _ h => h) (Or.inl ⟨by rfl, ?_⟩) ?_ ?_
  rotate_left
  · intro w'
    go_simp
    with_reducible rfl
  rotate_left
  · simp only [Act.put, List.setIfInBounds_toArray, List.set_cons_zero, List.set_cons_succ, i64_w, i32_w]
    rfl
  refine pure_ (i := 2) (N := some 83) (v := ?_) (a' := ?_) #[true, true, true, false, false, false, false, false, false, false, false, false, false, false, false, false, false, false, false, false, false, false, false, false] rfl rfl (any_of HT_.out (by kernel_rfl)) (fun _ _ _ h => h) (Or.inl ⟨by rfl, ?_⟩) ?_ ?_
  rotate_left
  · intro w'
    go_simp
    with_reducible rfl
  rotate_left
  · simp only [Act.put, List.setIfInBounds_toArray, List.set_cons_zero, List.set_cons_succ, i64_w, i32_w]
    rfl
  refine pure_ (i := 3) (N := some 84) (v := ?_) (a' := ?_) #[true, true, true, true, false, false, false, false, false, false, false, false, false, false, false, false, false, false, false, false, false, false, false, false] rfl rfl (any_of HT_.out (by kernel_rfl)) (fun _ _ _ h => h) (Or.inl ⟨by rfl, ?_⟩) ?_ ?_
  rotate_left
  · intro w'
    go_simp
    with_reducible rfl
  rotate_left
  · simp only [Act.put, List.setIfInBounds_toArray, List.set_cons_zero, List.set_cons_succ, i64_w, i32_w]
    rfl
  refine pure_ (i := 5) (N := some 86) (v := ?_) (a' := ?_) #[true, true, true, true, false, true, false, false, false, false, false, false, false, false, false, false, false, false, false, false, false, false, false, false] rfl rfl (any_of HT_.out (by kernel_rfl)) (fun _ _ _ h => h) (Or.inl ⟨by rfl, ?_⟩) ?_ ?_
  rotate_left
  · intro w'
    go_simp
    with_reducible rfl
  rotate_left
  · simp only [Act.put, List.setIfInBounds_toArray, List.set_cons_zero, List.set_cons_succ, i64_w, i32_w]
    rfl
  refine pure_ (i := 6) (N := some 87) (v := ?_) (a' := ?_) #[true, true, true, true, false, true, true, false, false, false, false, false, false, false, false, false, false, false, false, false, false, false, false, false] rfl rfl (any_of HT_.out (by kernel_rfl)) (fun _ _ _ h => h) (Or.inl ⟨by rfl, ?_⟩) ?_ ?_
  rotate_left
  · intro w'
    go_simp
    with_reducible rfl
  rotate_left
  · simp only [Act.put, List.setIfInBounds_toArray, List.set_cons_zero, List.set_cons_succ, i64_w, i32_w]
    rfl
  refine pure_ (i := 8) (N := some 89) (v := ?_) (a' := ?_) #[true, true, true, true, false, true, true, false, true, false, false, false, false, false, false, false, false, false, false, false, false, false, false, false] rfl rfl (any_of HT_.out (by kernel_rfl)) (fun _ _ _ h => h) (Or.inl ⟨by rfl, ?_⟩) ?_ ?_
  rotate_left
  · intro w'
    go_simp
    with_reducible rfl
  rotate_left
  · simp only [Act.put, List.setIfInBounds_toArray, List.set_cons_zero, List.set_cons_succ, i64_w, i32_w]
    rfl
  refine pure_ (i := 9) (N := some 90) (v := ?_) (a' := ?_) #[true, true, true, true, false, true, true, false, true, true, false, false, false, false, false, false, false, false, false, false, false, false, false, false] rfl rfl (any_of HT_.out (by kernel_rfl)) (fun _ _ _ h => h) (Or.inl ⟨by rfl, ?_⟩) ?_ ?_
  rotate_left
  · intro w'
    go_simp
    with_reducible rfl
  rotate_left
  · simp only [Act.put, List.setIfInBounds_toArray, List.set_cons_zero, List.set_cons_succ, i64_w, i32_w]
    rfl
  refine pure_ (i := 11) (N := some 92) (v := ?_) (a' := ?_) #[true, true, true, true, false, true, true, false, true, true, false, true, false, false, false, false, false, false, false, false, false, false, false, false] rfl rfl (any_of HT_.out (by kernel_rfl)) (fun _ _ _ h => h) (Or.inl ⟨by rfl, ?_⟩) ?_ ?_
  rotate_left
  · intro w'
    go_simp
    with_reducible rfl
  rotate_left
  · simp only [Act.put, List.setIfInBounds_toArray, List.set_cons_zero, List.set_cons_succ, i64_w, i32_w]
    rfl
  refine pure_ (i := 12) (N := some 93) (v := ?_) (a' := ?_) #[true, true, true, true, false, true, true, false, true, true, false, true, true, false, false, false, false, false, false, false, false, false, false, false] rfl rfl (any_of HT_.out (by kernel_rfl)) (fun _ _ _ h => h) (Or.inl ⟨by rfl, ?_⟩) ?_ ?_
  rotate_left
  · intro w'
    go_simp
    with_reducible rfl
  rotate_left
  · simp only [Act.put, List.setIfInBounds_toArray, List.set_cons_zero, List.set_cons_succ, i64_w, i32_w]
    rfl
  refine pure_ (i := 14) (N := some 95) (v := ?_) (a' := ?_) #[true, true, true, true, false, true, true, false, true, true, false, true, true, false, true, false, false, false, false, false, false, false, false, false] rfl rfl (any_of HT_.out (by kernel_rfl)) (fun _ _ _ h => h) (Or.inl ⟨by rfl, ?_⟩) ?_ ?_
  rotate_left
  · intro w'
    go_simp
    with_reducible rfl
  rotate_left
  · simp only [Act.put, List.setIfInBounds_toArray, List.set_cons_zero, List.set_cons_succ, i64_w, i32_w]
    rfl
  refine pure_ (i := 15) (N := some 96) (v := ?_) (a' := ?_) #[true, true, true, true, false, true, true, false, true, true, false, true, true, false, true, true, false, false, false, false, false, false, false, false] rfl rfl (any_of HT_.out (by kernel_rfl)) (fun _ _ _ h => h) (Or.inl ⟨by rfl, ?_⟩) ?_ ?_
  rotate_left
  · intro w'
    go_simp
    with_reducible rfl
  rotate_left
  · simp only [Act.put, List.setIfInBounds_toArray, List.set_cons_zero, List.set_cons_succ, i64_w, i32_w]
    rfl
  refine take_ (i := 4) (N := some 85) (v := ?_) (a' := ?_) #[true, true, true, true, true, true, true, false, true, true, false, true, true, false, true, true, false, false, false, false, false, false, false, false] rfl rfl (take_ofW HT_.out HW_.out (by kernel_rfl)) (fun _ _ _ h => h) (Or.inl ⟨by rfl, ?_⟩) hHeld ?_ ?_
  rotate_left
  · rintro w' ⟨s0, s1, s2, s3, s4⟩
    go_simp
    with_reducible rfl
  rotate_left
  · simp only [Act.put, List.setIfInBounds_toArray, List.set_cons_zero, List.set_cons_succ, i64_w, i32_w]
    rfl
  refine take_ (i := 7) (N := some 88) (v := ?_) (a' := ?_) #[true, true, true, true, true, true, true, true, true, true, false, true, true, false, true, true, false, false, false, false, false, false, false, false] rfl rfl (take_ofW HT_.out HW_.out (by kernel_rfl)) (fun _ _ _ h => h) (Or.inl ⟨by rfl, ?_⟩) hHeld ?_ ?_
  rotate_left
  · rintro w' ⟨s0, s1, s2, s3, s4⟩
    go_simp
    with_reducible rfl
  rotate_left
  · simp only [Act.put, List.setIfInBounds_toArray, List.set_cons_zero, List.set_cons_succ, i64_w, i32_w]
    rfl
  refine take_ (i := 10) (N := some 91) (v := ?_) (a' := ?_) #[true, true, true, true, true, true, true, true, true, true, true, true, true, false, true, true, false, false, false, false, false, false, false, false] rfl rfl (take_ofW HT_.out HW_.out (by kernel_rfl)) (fun _ _ _ h => h) (Or.inl ⟨by rfl, ?_⟩) hHeld ?_ ?_
  rotate_left
  · rintro w' ⟨s0, s1, s2, s3, s4⟩
    go_simp
    with_reducible rfl
  rotate_left
  · simp only [Act.put, List.setIfInBounds_toArray, List.set_cons_zero, List.set_cons_succ, i64_w, i32_w]
    rfl
  refine take_ (i := 13) (N := some 94) (v := ?_) (a' := ?_) #[true, true, true, true, true, true, true, true, true, true, true, true, true, true, true, true, false, false, false, false, false, false, false, false] rfl rfl (take_ofW HT_.out HW_.out (by kernel_rfl)) (fun _ _ _ h => h) (Or.inl ⟨by rfl, ?_⟩) hHeld ?_ ?_
  rotate_left
  · rintro w' ⟨s0, s1, s2, s3, s4⟩
    go_simp
    with_reducible rfl
  rotate_left
  · simp only [Act.put, List.setIfInBounds_toArray, List.set_cons_zero, List.set_cons_succ, i64_w, i32_w]
    rfl
  refine take_ (i := 16) (N := some 97) (v := ?_) (a' := ?_) #[true, true, true, true, true, true, true, true, true, true, true, true, true, true, true, true, true, false, false, false, false, false, false, false] rfl rfl (take_ofW HT_.out HW_.out (by kernel_rfl)) (fun _ _ _ h => h) (Or.inl ⟨by rfl, ?_⟩) hHeld ?_ ?_
  rotate_left
  · rintro w' ⟨s0, s1, s2, s3, s4⟩
    go_simp
    with_reducible rfl
  rotate_left
  · simp only [Act.put, List.setIfInBounds_toArray, List.set_cons_zero, List.set_cons_succ, i64_w, i32_w]
    rfl
  refine pure_ (i := 17) (N := some 98) (v := ?_) (a' := ?_) #[true, true, true, true, true, true, true, true, true, true, true, true, true, true, true, true, true, true, false, false, false, false, false, false] rfl rfl (any_of HT_.out (by kernel_rfl)) (fun _ _ _ h => h) (Or.inl ⟨by rfl, ?_⟩) ?_ ?_
  rotate_left
  · intro w'
    go_simp
    with_reducible rfl
  rotate_left
  · simp only [Act.put, List.setIfInBounds_toArray, List.set_cons_zero, List.set_cons_succ, i64_w, i32_w]
    rfl
  refine pure_ (i := 18) (N := some 99) (v := ?_) (a' := ?_) #[true, true, true, true, true, true, true, true, true, true, true, true, true, true, true, true, true, true, true, false, false, false, false, false] rfl rfl (any_of HT_.out (by kernel_rfl)) (fun _ _ _ h => h) (Or.inl ⟨by rfl, ?_⟩) ?_ ?_
  rotate_left
  · intro w'
    go_simp
    with_reducible rfl
  rotate_left
  · simp only [Act.put, List.setIfInBounds_toArray, List.set_cons_zero, List.set_cons_succ, i64_w, i32_w]
    rfl
  refine one_ (i := 19) (N := some 100) #[true, true, true, true, true, true, true, true, true, true, true, true, true, true, true, true, true, true, true, true, false, false, false, false] rfl rfl (one_of HT_.out (by kernel_rfl)) (by decide) (fun K hK => ?_)
  refine event_step (v := .slice (some ⟨w2.heap.size, 0, none⟩) 1 1) (w1 := w2.alloc (.cells #[.int .i64 a, .int .i64 b, .int .i64 c, .bool false, .slice none 0 0] 57)) (by rfl) (by first | (go_simp; done) | (go_simp; rfl)) ?_
  refine hK.out _ _ ⟨pw_cell_below (below_alloc (Below.refl _ w2) (.cells #[.int .i64 a, .int .i64 b, .int .i64 c, .bool false, .slice none 0 0] 57)) ((blk_cell BK.out 0).trans rfl), pw_cell_below (below_alloc (Below.refl _ w2) (.cells #[.int .i64 a, .int .i64 b, .int .i64 c, .bool false, .slice none 0 0] 57)) (num_cell HR.out 0 a rfl), pw_cell_below (below_alloc (Below.refl _ w2) (.cells #[.int .i64 a, .int .i64 b, .int .i64 c, .bool false, .slice none 0 0] 57)) (num_cell HR.out 1 b rfl), pw_cell_below (below_alloc (Below.refl _ w2) (.cells #[.int .i64 a, .int .i64 b, .int .i64 c, .bool false, .slice none 0 0] 57)) (num_cell HR.out 2 c rfl), pw_cell_below (below_alloc (Below.refl _ w2) (.cells #[.int .i64 a, .int .i64 b, .int .i64 c, .bool false, .slice none 0 0] 57)) (num_cell HR.out 3 0 rfl)⟩ (fun hHeld => ?_)
  clear hK K
  refine norm_ (a' := ?_) ?_ ?_
  rotate_left
  · show Act.put _ (some 100) _ = _
    simp only [Act.put, List.setIfInBounds_toArray, List.set_cons_zero, List.set_cons_succ, i64_w, i32_w]
    rfl
  refine one_ (i := 20) (N := some 101) #[true, true, true, true, true, true, true, true, true, true, true, true, true, true, true, true, true, true, true, true, true, false, false, false] rfl rfl (one_of HT_.out (by kernel_rfl)) (by decide) (fun K hK => ?_)
  refine Kd.S_append_step k57q (w0 := w) base (by rfl) (.tmp 85) (.tmp 100) 33 57 (.agg #[.int .i64 0, .int .i64 0, .int .i64 0, .bool false, .slice none 0 0]) 56 (by rfl) Tryd.underlying33 info57 (by rfl) (by decide) (by omega) P ps ⟨a, b, c, false, []⟩ [.int .i64 a, .int .i64 b, .int .i64 c, .bool false, .slice none 0 0] (fun k => (okP k ∧ k < w2.heap.size) ∨ w2.heap.size ≤ k) (fun _ => False) (by rfl) (by rfl) (k57q_mkM _ _ _ ⟨a, b, c, false, []⟩ (Kd.S_nil _ _ _ _ _)) (fun _ h => h.elim) (fun k hk => Or.inr hk) (Kd.S_mono (Kd.S_bound HP.out) (fun k hk => ⟨Or.inl ⟨hk.1, hk.2.2.1⟩, fun h => h⟩)) ?aB ?aS ?aL ?_
  case aB => exact HB.out.mono HBW.out
  case aS => exact Nat.le_trans HBW.out HB.out.size
  case aL => have := HPS.out; omega
  intro P1 w3 hP1 hb1 hg1 hat1
  obtain ⟨PA, PN, PC, rfl⟩ : ∃ PA PN PC, P1 = .slice PA PN PC := by
    obtain ⟨A, c, e⟩ := Kd.S_slice hP1
    exact ⟨A, _, c, e⟩
  have n0_ := Aside0.mk (blk_grown BK.out hg1 (Kd.S_ne HP.out BK.out (by decide)))
  have n1_ := Aside0.mk (Kd.R_over' HR.out (Kd.S_typed HP.out) ne57 hg1)
  have n3_ := Aside0.mk (Kd.S_over' (Kd.S_mono (Kd.S_bound HT.out) (fun k hk => (⟨hk.1, hk.2.2.1⟩ : okT k ∧ k < w2.heap.size))) (Kd.S_typed HP.out) ne54 hg1)
  have HP1 := Aside0.mk hP1
  have HB1 := Aside0.mk hb1
  clear hP1 hb1 hg1 hat1 BK HR HP HT
  have BK := n0_
  have HR := n1_
  have HT := n3_
  clear n0_ n1_ n3_
  refine hK.out _ _ ⟨(blk_cell BK.out 0).trans rfl, num_cell HR.out 0 a rfl, num_cell HR.out 1 b rfl, num_cell HR.out 2 c rfl, num_cell HR.out 3 0 rfl⟩ (fun hHeld => ?_)
  clear hK K
  refine norm_ (a' := ?_) ?_ ?_
  rotate_left
  · show Act.put _ (some 101) _ = _
    simp only [Act.put, List.setIfInBounds_toArray, List.set_cons_zero, List.set_cons_succ, i64_w, i32_w]
    rfl
  refine pure_ (i := 21) (N := some 102) (v := ?_) (a' := ?_) #[true, true, true, true, true, true, true, true, true, true, true, true, true, true, true, true, true, true, true, true, true, true, false, false] rfl rfl (any_of HT_.out (by kernel_rfl)) (fun _ _ _ h => h) (Or.inl ⟨by rfl, ?_⟩) ?_ ?_
  rotate_left
  · intro w'
    go_simp
    with_reducible rfl
  rotate_left
  · simp only [Act.put, List.setIfInBounds_toArray, List.set_cons_zero, List.set_cons_succ, i64_w, i32_w]
    rfl
  refine pure_ (i := 22) (N := some 103) (v := ?_) (a' := ?_) #[true, true, true, true, true, true, true, true, true, true, true, true, true, true, true, true, true, true, true, true, true, true, true, false] rfl rfl (any_of HT_.out (by kernel_rfl)) (fun _ _ _ h => h) (Or.inl ⟨by rfl, ?_⟩) ?_ ?_
  rotate_left
  · intro w'
    go_simp
    with_reducible rfl
  rotate_left
  · simp only [Act.put, List.setIfInBounds_toArray, List.set_cons_zero, List.set_cons_succ, i64_w, i32_w]
    rfl
  have z0 := blk_frozen BK.out 0
  have z1 : w3.cell? ⟨g, 0, none⟩ = some P := (blk_cell BK.out 0).trans rfl
  refine last_ (i := 23) (N := none) #[true, true, true, true, true, true, true, true, true, true, true, true, true, true, true, true, true, true, true, true, true, true, true, true] rfl rfl (one_of HT_.out (by kernel_rfl)) (by decide) (fun K hK => ?_)
  refine store_step (w1 := w3.setCell ⟨g, 0, none⟩ (.slice PA PN PC)) (by rfl) rfl (by first | (go_simp; done) | (go_simp; rfl)) ?_
  refine hK.out _ _ ?_
  clear hK K
  refine done_ (done_of HT_.out (by kernel_rfl)) ?_
  have n0_ := Aside0.mk (blk_put (cs := #[P, T]) (cs' := #[.slice PA PN PC, T]) BK.out 0 (.slice PA PN PC) rfl)
  have n1_ := Aside0.mk (Kd.S_set HP1.out BK.out ne57u 0 (.slice PA PN PC))
  have n2_ := Aside0.mk (Kd.S_set HT.out BK.out ne54u 0 (.slice PA PN PC))
  have n3_ : Aside0 (Fr base g w (w3.setCell ⟨g, 0, none⟩ (.slice PA PN PC))) := ⟨fr_set HB1.out 0 (.slice PA PN PC)⟩
  generalize w3.setCell ⟨g, 0, none⟩ (.slice PA PN PC) = w4 at n0_ n1_ n2_ n3_ ⊢
  go_wp2
  go_returns
  exact ⟨rfl, ⟨_, T, _, _, n0_.out, n1_.out, n2_.out, fun k h1 h2 => h1.elim (fun h => HAP.out k h.1 h2.1) (fun h => Nat.lt_irrefl _ (Nat.lt_of_lt_of_le h2.2 h))⟩, n3_.out⟩
set_option maxRecDepth 100000 in
set_option maxHeartbeats 4000000 in
theorem add_bad (p : Value) (s wd : ByteArray) (n : List Int) (w : World) (hL : LW w) (hs : s.size < 4294967281) (h : readOf s = some (wd, n)) (hn : oneOf wd n = none) (ht : (wd.toList == [116, 121, 112, 101]) = false) (hp : (wd.toList == [112, 114, 111, 103]) = false) :
    Calls Tryd.prog 49 #[p, .string s] w fun e w' => e = .returned (.bool false) ∧ Below w.heap.size w w' := by
  have HL := Aside0.mk hL
  have HH := Aside0.mk h
  have HN := Aside0.mk hn
  clear hL h hn
  go_enter Tryd.func49, Tryd.ntmps49
  go_wp2_with (first
    | (go_at_call 61; refine (read_yes s _ _ _ hs HL.out HH.out).mono ?_; rintro e w1 ⟨v, rfl, hr, hb⟩; have HR := Aside0.mk hr; have HB := Aside0.mk hb; clear hr hb)
    | (go_at_call 62; refine (one_any wd (Kd.Q_of_R HR.out)).mono ?_; rw [HN.out]; rintro e w2 ⟨⟨a0, b0, c0, rfl⟩, hb⟩; have HB2 := Aside0.mk (below_then HB.out HB.out.size hb); clear hb)
    | ((with_reducible refine gate_dst (N := 8) rfl ?_); refine box_event ?hg (N := 8) ?hd (cs := #[.int .i64 0, .int .i64 0, .int .i64 0, .slice none 0 0]) (t := 28) ?hr ?_; (case hd => rfl); (case hg => rfl); (case hr => first | (go_simp; done) | (go_simp; rfl)); intro g8 hg w3 hbox hb; have BK8 := Aside0.mk hbox; have GE8 := Aside0.mk (show w.heap.size ≤ g8 by rw [hg]; exact HB2.out.size); have HB3 := Aside0.mk (below_then HB2.out HB2.out.size hb); clear hg hbox hb)
    | (refine wpList_store_row rfl 28 (.tmp 8) (.tmp 108) rfl g8 #[.int .i64 a0, .int .i64 b0, .int .i64 c0, .slice none 0 0] rfl rfl 28 _ BK8.out (by kernel_rfl) rfl (by kernel_rfl) ?_; have HB4 := Aside0.mk (below_setRow HB3.out GE8.out #[.int .i64 a0, .int .i64 b0, .int .i64 c0, .slice none 0 0]); generalize w3.setRow g8 #[.int .i64 a0, .int .i64 b0, .int .i64 c0, .slice none 0 0] = w4 at HB4 ⊢))
  go_returns
  exact ⟨rfl, HB4.out⟩
end Go.Proofs.YtfkfgjmhcfagkaaDoor.Given
